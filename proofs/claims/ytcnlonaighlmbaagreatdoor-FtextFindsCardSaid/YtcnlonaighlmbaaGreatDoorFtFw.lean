/- formulas: words for the laws' walks. -/
import Derived.Test.YtcnlonaighlmbaaGreatDoorFtH
import Derived.Test.YtcnlonaighlmbaaGreatDoorFtC
set_option linter.unusedSimpArgs false
set_option linter.unusedVariables false
namespace Go.Proofs.YtcnlonaighlmbaaGreatDoor
open Go.RowKit

theorem same_t (t : ByteArray) (W : World) : Calls Tryz.prog 12 #[(.agg #[.int .i64 2, .string ⟨#[]⟩, .string ⟨#[]⟩, .string t, .bool false, .int .i64 0, .int .i64 0, .int .i64 0, .slice none 0 0]), (.agg #[.int .i64 2, .string ⟨#[]⟩, .string ⟨#[]⟩, .string t, .bool false, .int .i64 0, .int .i64 0, .int .i64 0, .slice none 0 0])] W fun e w' => e = .returned (.bool true) ∧ Below W.heap.size W w' := same_v (tV t) rfl W
theorem same_n (n : Nat) (W : World) : Calls Tryz.prog 12 #[(.agg #[.int .i64 1, .string (nt n), .string ⟨#[49]⟩, .string ⟨#[]⟩, .bool false, .int .i64 0, .int .i64 0, .int .i64 0, .slice none 0 0]), (.agg #[.int .i64 1, .string (nt n), .string ⟨#[49]⟩, .string ⟨#[]⟩, .bool false, .int .i64 0, .int .i64 0, .int .i64 0, .slice none 0 0])] W fun e w' => e = .returned (.bool true) ∧ Below W.heap.size W w' := same_v (nV n) rfl W
theorem whole_x (x : Int) (j : Nat) (W : World) (he : VEnv W) (hx : x = (j : Int)) (hj : j ≤ 100000) : Calls Tryz.prog 11 #[.int .i64 x] W fun e w' => e = .returned (.agg #[.int .i64 1, .string (nt j), .string ⟨#[49]⟩, .string ⟨#[]⟩, .bool false, .int .i64 0, .int .i64 0, .int .i64 0, .slice none 0 0]) ∧ Below W.heap.size W w' := by
  subst hx
  exact whole_h j W he hj
theorem mod_x (n x : Int) (M r : Nat) (W : World) (hx : x = (M : Int)) (hM : 0 < M) (hM2 : M ≤ 100000) (hn : -9223372036854775808 ≤ n ∧ n ≤ 9223372036854775807) (hr : n % (M : Int) = (r : Int)) : Calls Tryz.prog 10 #[.int .i64 n, .int .i64 x] W fun e w' => e = .returned (.int .i64 (r : Int)) ∧ W = w' := by
  subst hx
  rw [← hr]
  exact mod_any n M W (by omega) (by omega) hn
theorem nat_mod (n : Int) (M : Nat) (h : 0 < M) : ∃ r : Nat, n % (M : Int) = (r : Int) ∧ r < M := by
  have h1 := Int.emod_nonneg n (show (M : Int) ≠ 0 by omega)
  have h2 := Int.emod_lt_of_pos n (show (0 : Int) < M by omega)
  exact ⟨(n % (M : Int)).toNat, by omega, by omega⟩
end Go.Proofs.YtcnlonaighlmbaaGreatDoor

set_option linter.unusedSimpArgs false
set_option linter.unusedVariables false
namespace Go.Proofs.YtcnlonaighlmbaaGreatDoor
open Go.RowKit

theorem first_n (P : Nat → Bool) (N : Nat) (h : ∃ n, n ≤ N ∧ P n = true) : ∃ n, n ≤ N ∧ P n = true ∧ ∀ m, m < n → P m = false := by
  obtain ⟨n, hn, hp⟩ := h
  induction n using Nat.strongRecOn with
  | _ n ih =>
    by_cases h2 : ∃ m, m < n ∧ P m = true
    · obtain ⟨m, h3, h4⟩ := h2
      exact ih m h3 (by omega) h4
    · refine ⟨n, hn, hp, fun m hm => ?_⟩
      cases h5 : P m with
      | false => rfl
      | true => exact absurd ⟨m, hm, h5⟩ h2
theorem txtv_any (s : ByteArray) (W : World) (he : VEnv W) (hs : s.size ≤ 9223372036854775807) : Calls Tryz.prog 7 #[.string s] W fun e w' => ∃ (k0 : Int) (t0 : ByteArray) (c0 : Int), e = .returned (.agg #[.int .i64 k0, .string ⟨#[]⟩, .string ⟨#[]⟩, .string t0, .bool false, .int .i64 c0, .int .i64 0, .int .i64 0, .slice none 0 0]) ∧ ((k0 = 2 ∧ t0 = s ∧ c0 = 0 ∧ txtE s = 0) ∨ (k0 = 4 ∧ ¬ txtE s = 0)) ∧ Below W.heap.size W w' := by
  by_cases h : txtE s = 0
  · exact (text_t s W he h hs).mono fun e w' g => ⟨2, s, 0, g.1, .inl ⟨rfl, rfl, rfl, h⟩, g.2⟩
  · exact (text_f s W he h hs).mono fun e w' g => ⟨4, ⟨#[]⟩, 2, g.1, .inr ⟨rfl, h⟩, g.2⟩
set_option maxRecDepth 100000 in
set_option maxHeartbeats 40000000 in
theorem ffinds_w (s t : ByteArray) (w : World) (he : VEnv w) (hs : s.size ≤ 9223372036854775807) (ht : t.size ≤ 9223372036854775807) :
    Calls Tryz.prog 5 #[.string s, .string t] w fun e w' => e = .returned (.bool true) ∧ Below w.heap.size w w' := by
  obtain ⟨vs, vt, hvs, hvt, hv⟩ : ∃ vs vt, txtE vs = 0 ∧ txtE vt = 0 ∧ ((txtE s = 0 ∧ txtE t = 0 ∧ s.size ≤ 300 ∧ vs = s ∧ vt = t) ∨ (¬ (txtE s = 0 ∧ txtE t = 0 ∧ s.size ≤ 300) ∧ vs = ⟨#[98]⟩ ∧ vt = ⟨#[97, 98, 99]⟩)) := by
    by_cases h : txtE s = 0 ∧ txtE t = 0 ∧ s.size ≤ 300
    · exact ⟨s, t, h.1, h.2.1, .inl ⟨h.1, h.2.1, h.2.2, rfl, rfl⟩⟩
    · exact ⟨⟨#[98]⟩, ⟨#[97, 98, 99]⟩, by decide +kernel, by decide +kernel, .inr ⟨h, rfl, rfl⟩⟩
  obtain ⟨ds, hds, rfl, hsd⟩ := chs_txtE hvs
  obtain ⟨cs, hcs, rfl, hsz⟩ := chs_txtE hvt
  have HT1 := Lib.hid fun W (hW : Below w.heap.size w W) => txtv_any s W (he.below hW) hs
  have HT2 := Lib.hid fun W (hW : Below w.heap.size w W) => txtv_any t W (he.below hW) ht
  have HT3 := Lib.hid (show ∀ W, Below w.heap.size w W → tx ds = ⟨#[98]⟩ → Calls Tryz.prog 7 #[.string ⟨#[98]⟩] W fun e w' => e = .returned (.agg #[.int .i64 2, .string ⟨#[]⟩, .string ⟨#[]⟩, .string (tx ds), .bool false, .int .i64 0, .int .i64 0, .int .i64 0, .slice none 0 0]) ∧ Below W.heap.size W w' from fun W hW h => by
    rw [h]
    exact text_t ⟨#[98]⟩ W (he.below hW) (by decide +kernel) (by decide))
  have HT4 := Lib.hid (show ∀ W, Below w.heap.size w W → tx cs = ⟨#[97, 98, 99]⟩ → Calls Tryz.prog 7 #[.string ⟨#[97, 98, 99]⟩] W fun e w' => e = .returned (.agg #[.int .i64 2, .string ⟨#[]⟩, .string ⟨#[]⟩, .string (tx cs), .bool false, .int .i64 0, .int .i64 0, .int .i64 0, .slice none 0 0]) ∧ Below W.heap.size W w' from fun W hW h => by
    rw [h]
    exact text_t ⟨#[97, 98, 99]⟩ W (he.below hW) (by decide +kernel) (by decide))
  have HE := Lib.hid he
  have HV := Lib.hid hv
  have HN := Lib.hid (tx_le hcs hsz)
  have HCS := Lib.hid (show (ChsOk cs ∧ (tx cs).size ≤ 32767) ∧ (ChsOk ds ∧ (tx ds).size ≤ 32767) from ⟨⟨hcs, hsz⟩, hds, hsd⟩)
  clear hvs hvt hv he hs ht hcs hds
  go_enter Tryz.func5, Tryz.ntmps5
  go_upto_region 1 with fail
  go_cut [5, 6] (fun u5 u6 wz => ∃ (V Wb : Nat) (k0 : Int) (t0 : ByteArray) (c0 k1 : Int) (t1 : ByteArray) (c1 : Int), u5 = .pointer (some ⟨V, 0, none⟩) ∧ u6 = .pointer (some ⟨Wb, 0, none⟩) ∧ Hid ((k0 = 2 ∧ t0 = s ∧ c0 = 0 ∧ txtE s = 0) ∨ (k0 = 4 ∧ ¬ txtE s = 0)) ∧ Hid ((k1 = 2 ∧ t1 = t ∧ c1 = 0 ∧ txtE t = 0) ∨ (k1 = 4 ∧ ¬ txtE t = 0)) ∧ Hid (Blk wz V 26 #[.int .i64 k0, .string ⟨#[]⟩, .string ⟨#[]⟩, .string t0, .bool false, .int .i64 c0, .int .i64 0, .int .i64 0, .slice none 0 0]) ∧ Hid (Blk wz Wb 26 #[.int .i64 k1, .string ⟨#[]⟩, .string ⟨#[]⟩, .string t1, .bool false, .int .i64 c1, .int .i64 0, .int .i64 0, .slice none 0 0]) ∧ Hid (Below w.heap.size w wz) ∧ Hid (w.heap.size ≤ V ∧ w.heap.size ≤ Wb ∧ V ≠ Wb))
  case first =>
    go_wp2_with (first
      | (go_at_call 7; (with_reducible refine (HT1.out _ (Below.refl _ _)).mono ?_); rintro e w1 ⟨k0, t0, c0, rfl, hk0, hb⟩; have HK0 := Lib.hid hk0; have HB1 := Lib.hid hb; clear hk0 hb)
      | (go_at_call 7; (with_reducible refine (HT2.out _ HB1.out).mono ?_); rintro e w2 ⟨k1, t1, c1, rfl, hk1, hb⟩; have HK1 := Lib.hid hk1; have HB2 := Lib.hid (HB1.out.trans (hb.mono HB1.out.size)); clear hk1 hb))
    go_meet
    have hba := below_al w2 (.cells #[.int .i64 k0, .string ⟨#[]⟩, .string ⟨#[]⟩, .string t0, .bool false, .int .i64 c0, .int .i64 0, .int .i64 0, .slice none 0 0] 26)
    have e : (w2.alloc (.cells #[.int .i64 k0, .string ⟨#[]⟩, .string ⟨#[]⟩, .string t0, .bool false, .int .i64 c0, .int .i64 0, .int .i64 0, .slice none 0 0] 26)).heap.size = w2.heap.size + 1 := by simp
    have hbb := below_al (w2.alloc (.cells #[.int .i64 k0, .string ⟨#[]⟩, .string ⟨#[]⟩, .string t0, .bool false, .int .i64 c0, .int .i64 0, .int .i64 0, .slice none 0 0] 26)) (.cells #[.int .i64 k1, .string ⟨#[]⟩, .string ⟨#[]⟩, .string t1, .bool false, .int .i64 c1, .int .i64 0, .int .i64 0, .slice none 0 0] 26)
    have hk := Blk.new (w2.alloc (.cells #[.int .i64 k0, .string ⟨#[]⟩, .string ⟨#[]⟩, .string t0, .bool false, .int .i64 c0, .int .i64 0, .int .i64 0, .slice none 0 0] 26)) 26 #[.int .i64 k1, .string ⟨#[]⟩, .string ⟨#[]⟩, .string t1, .bool false, .int .i64 c1, .int .i64 0, .int .i64 0, .slice none 0 0]
    rw [e] at hk
    have hs := HB2.out.size
    exact ⟨w2.heap.size, w2.heap.size + 1, k0, t0, c0, k1, t1, c1, rfl, rfl, HK0, HK1, Lib.hid ((Blk.new w2 26 #[.int .i64 k0, .string ⟨#[]⟩, .string ⟨#[]⟩, .string t0, .bool false, .int .i64 c0, .int .i64 0, .int .i64 0, .slice none 0 0]).later hbb), Lib.hid hk, Lib.hid ((HB2.out.trans (hba.mono hs)).trans (hbb.mono (Nat.le_trans hs hba.size))), Lib.hid ⟨hs, by omega, by omega⟩⟩
  case rest =>
  obtain ⟨V, Wb, k0, t0, c0, k1, t1, c1, rfl, rfl, HK0, HK1, HPV, HPW, HB2, HVL⟩ := hcut
  clear HT1 HT2
  go_step
  go_step
  go_cut [] (fun wz => Hid (Blk wz V 26 #[.int .i64 2, .string ⟨#[]⟩, .string ⟨#[]⟩, .string (tx ds), .bool false, .int .i64 0, .int .i64 0, .int .i64 0, .slice none 0 0]) ∧ Hid (Blk wz Wb 26 #[.int .i64 2, .string ⟨#[]⟩, .string ⟨#[]⟩, .string (tx cs), .bool false, .int .i64 0, .int .i64 0, .int .i64 0, .slice none 0 0]) ∧ Hid (Below w.heap.size w wz))
  case first =>
    obtain ⟨e0, e1, e2, e3, e4, e5, e6, e7, e8⟩ := HPV.out.nine
    obtain ⟨g0, g1, g2, g3, g4, g5, g6, g7, g8⟩ := HPW.out.nine
    have HBAD := Lib.hid (show ¬ (txtE s = 0 ∧ txtE t = 0 ∧ s.size ≤ 300) → tx ds = ⟨#[98]⟩ ∧ tx cs = ⟨#[97, 98, 99]⟩ from fun hn => by
      rcases HV.out with ⟨g1, g2, g3, -⟩ | ⟨-, g4, g5⟩
      · exact absurd ⟨g1, g2, g3⟩ hn
      · exact ⟨g4, g5⟩)
    rcases HK0.out with ⟨rfl, rfl, rfl, hs0⟩ | ⟨rfl, hs0⟩
    · rcases HK1.out with ⟨rfl, rfl, rfl, ht0⟩ | ⟨rfl, ht0⟩
      · by_cases hz : t0.size ≤ 300
        · have z1 : ¬ (300 : Int) < (t0.size : Int) := by omega
          have HGD := Lib.hid (show tx ds = t0 ∧ tx cs = t1 from by
            rcases HV.out with ⟨-, -, -, g4, g5⟩ | ⟨g, -⟩
            · exact ⟨g4, g5⟩
            · exact absurd ⟨hs0, ht0, hz⟩ g)
          clear hs0 ht0 hz HBAD HV
          go_wp2_with fail
          go_meet
          exact ⟨by rw [HGD.out.1]; exact HPV, by rw [HGD.out.2]; exact HPW, HB2⟩
        · have z1 : (300 : Int) < (t0.size : Int) := by omega
          have HBD := Lib.hid (HBAD.out (fun h => hz h.2.2))
          clear hs0 ht0 hz HBAD HV
          obtain ⟨f0, f1, f2, f3, f4, f5, f6, f7, f8⟩ := HPV.out.ninef
          obtain ⟨d0, d1, d2, d3, d4, d5, d6, d7, d8⟩ := HPW.out.ninef
          go_upto_region 99 with (first
            | (go_at_call 7; (with_reducible refine (HT3.out _ HB2.out HBD.out.1).mono ?_); rintro e w3 ⟨rfl, hb⟩; have HPV3 := Lib.hid (HPV.out.later hb); have HPW3 := Lib.hid (HPW.out.later hb); have HB3 := Lib.hid (HB2.out.trans (hb.mono HB2.out.size)); clear hb HPV HPW HB2; clear e0 e1 e2 e3 e4 e5 e6 e7 e8 f0 f1 f2 f3 f4 f5 f6 f7 f8 g0 g1 g2 g3 g4 g5 g6 g7 g8 d0 d1 d2 d3 d4 d5 d6 d7 d8)
            | (go_at_call 7; (with_reducible refine (HT4.out _ HB3.out HBD.out.2).mono ?_); rintro e w4 ⟨rfl, hb⟩; have HPV4 := Lib.hid (HPV3.out.later hb); have HPW4 := Lib.hid (HPW3.out.later hb); have HB4 := Lib.hid (HB3.out.trans (hb.mono HB3.out.size)); clear hb HPV3 HPW3 HB3; obtain ⟨e0, e1, e2, e3, e4, e5, e6, e7, e8⟩ := HPV4.out.nine; obtain ⟨f0, f1, f2, f3, f4, f5, f6, f7, f8⟩ := HPV4.out.ninef; obtain ⟨g0, g1, g2, g3, g4, g5, g6, g7, g8⟩ := (nine_far HPW4.out HVL.out.2.2.symm (.int .i64 2) (.string ⟨#[]⟩) (.string ⟨#[]⟩) (.string (tx ds)) (.bool false) (.int .i64 0) (.int .i64 0) (.int .i64 0) (.slice none 0 0)).nine; obtain ⟨d0, d1, d2, d3, d4, d5, d6, d7, d8⟩ := (nine_far HPW4.out HVL.out.2.2.symm (.int .i64 2) (.string ⟨#[]⟩) (.string ⟨#[]⟩) (.string (tx ds)) (.bool false) (.int .i64 0) (.int .i64 0) (.int .i64 0) (.slice none 0 0)).ninef))
          go_meet
          exact ⟨Lib.hid (nine_far (HPV4.out.nine_set (.int .i64 2) (.string ⟨#[]⟩) (.string ⟨#[]⟩) (.string (tx ds)) (.bool false) (.int .i64 0) (.int .i64 0) (.int .i64 0) (.slice none 0 0)).1 HVL.out.2.2 (.int .i64 2) (.string ⟨#[]⟩) (.string ⟨#[]⟩) (.string (tx cs)) (.bool false) (.int .i64 0) (.int .i64 0) (.int .i64 0) (.slice none 0 0)), Lib.hid ((nine_far HPW4.out HVL.out.2.2.symm (.int .i64 2) (.string ⟨#[]⟩) (.string ⟨#[]⟩) (.string (tx ds)) (.bool false) (.int .i64 0) (.int .i64 0) (.int .i64 0) (.slice none 0 0)).nine_set (.int .i64 2) (.string ⟨#[]⟩) (.string ⟨#[]⟩) (.string (tx cs)) (.bool false) (.int .i64 0) (.int .i64 0) (.int .i64 0) (.slice none 0 0)).1, Lib.hid (below_nine (below_nine HB4.out HVL.out.1 (.int .i64 2) (.string ⟨#[]⟩) (.string ⟨#[]⟩) (.string (tx ds)) (.bool false) (.int .i64 0) (.int .i64 0) (.int .i64 0) (.slice none 0 0)) HVL.out.2.1 (.int .i64 2) (.string ⟨#[]⟩) (.string ⟨#[]⟩) (.string (tx cs)) (.bool false) (.int .i64 0) (.int .i64 0) (.int .i64 0) (.slice none 0 0))⟩
      · have HBD := Lib.hid (HBAD.out (fun h => ht0 h.2.1))
        clear hs0 ht0 HBAD HV
        obtain ⟨f0, f1, f2, f3, f4, f5, f6, f7, f8⟩ := HPV.out.ninef
        obtain ⟨d0, d1, d2, d3, d4, d5, d6, d7, d8⟩ := HPW.out.ninef
        go_upto_region 99 with (first
          | (go_at_call 7; (with_reducible refine (HT3.out _ HB2.out HBD.out.1).mono ?_); rintro e w3 ⟨rfl, hb⟩; have HPV3 := Lib.hid (HPV.out.later hb); have HPW3 := Lib.hid (HPW.out.later hb); have HB3 := Lib.hid (HB2.out.trans (hb.mono HB2.out.size)); clear hb HPV HPW HB2; clear e0 e1 e2 e3 e4 e5 e6 e7 e8 f0 f1 f2 f3 f4 f5 f6 f7 f8 g0 g1 g2 g3 g4 g5 g6 g7 g8 d0 d1 d2 d3 d4 d5 d6 d7 d8)
          | (go_at_call 7; (with_reducible refine (HT4.out _ HB3.out HBD.out.2).mono ?_); rintro e w4 ⟨rfl, hb⟩; have HPV4 := Lib.hid (HPV3.out.later hb); have HPW4 := Lib.hid (HPW3.out.later hb); have HB4 := Lib.hid (HB3.out.trans (hb.mono HB3.out.size)); clear hb HPV3 HPW3 HB3; obtain ⟨e0, e1, e2, e3, e4, e5, e6, e7, e8⟩ := HPV4.out.nine; obtain ⟨f0, f1, f2, f3, f4, f5, f6, f7, f8⟩ := HPV4.out.ninef; obtain ⟨g0, g1, g2, g3, g4, g5, g6, g7, g8⟩ := (nine_far HPW4.out HVL.out.2.2.symm (.int .i64 2) (.string ⟨#[]⟩) (.string ⟨#[]⟩) (.string (tx ds)) (.bool false) (.int .i64 0) (.int .i64 0) (.int .i64 0) (.slice none 0 0)).nine; obtain ⟨d0, d1, d2, d3, d4, d5, d6, d7, d8⟩ := (nine_far HPW4.out HVL.out.2.2.symm (.int .i64 2) (.string ⟨#[]⟩) (.string ⟨#[]⟩) (.string (tx ds)) (.bool false) (.int .i64 0) (.int .i64 0) (.int .i64 0) (.slice none 0 0)).ninef))
        go_meet
        exact ⟨Lib.hid (nine_far (HPV4.out.nine_set (.int .i64 2) (.string ⟨#[]⟩) (.string ⟨#[]⟩) (.string (tx ds)) (.bool false) (.int .i64 0) (.int .i64 0) (.int .i64 0) (.slice none 0 0)).1 HVL.out.2.2 (.int .i64 2) (.string ⟨#[]⟩) (.string ⟨#[]⟩) (.string (tx cs)) (.bool false) (.int .i64 0) (.int .i64 0) (.int .i64 0) (.slice none 0 0)), Lib.hid ((nine_far HPW4.out HVL.out.2.2.symm (.int .i64 2) (.string ⟨#[]⟩) (.string ⟨#[]⟩) (.string (tx ds)) (.bool false) (.int .i64 0) (.int .i64 0) (.int .i64 0) (.slice none 0 0)).nine_set (.int .i64 2) (.string ⟨#[]⟩) (.string ⟨#[]⟩) (.string (tx cs)) (.bool false) (.int .i64 0) (.int .i64 0) (.int .i64 0) (.slice none 0 0)).1, Lib.hid (below_nine (below_nine HB4.out HVL.out.1 (.int .i64 2) (.string ⟨#[]⟩) (.string ⟨#[]⟩) (.string (tx ds)) (.bool false) (.int .i64 0) (.int .i64 0) (.int .i64 0) (.slice none 0 0)) HVL.out.2.1 (.int .i64 2) (.string ⟨#[]⟩) (.string ⟨#[]⟩) (.string (tx cs)) (.bool false) (.int .i64 0) (.int .i64 0) (.int .i64 0) (.slice none 0 0))⟩
    · have HBD := Lib.hid (HBAD.out (fun h => hs0 h.1))
      clear hs0 HBAD HV
      obtain ⟨f0, f1, f2, f3, f4, f5, f6, f7, f8⟩ := HPV.out.ninef
      obtain ⟨d0, d1, d2, d3, d4, d5, d6, d7, d8⟩ := HPW.out.ninef
      go_upto_region 99 with (first
        | (go_at_call 7; (with_reducible refine (HT3.out _ HB2.out HBD.out.1).mono ?_); rintro e w3 ⟨rfl, hb⟩; have HPV3 := Lib.hid (HPV.out.later hb); have HPW3 := Lib.hid (HPW.out.later hb); have HB3 := Lib.hid (HB2.out.trans (hb.mono HB2.out.size)); clear hb HPV HPW HB2; clear e0 e1 e2 e3 e4 e5 e6 e7 e8 f0 f1 f2 f3 f4 f5 f6 f7 f8 g0 g1 g2 g3 g4 g5 g6 g7 g8 d0 d1 d2 d3 d4 d5 d6 d7 d8)
        | (go_at_call 7; (with_reducible refine (HT4.out _ HB3.out HBD.out.2).mono ?_); rintro e w4 ⟨rfl, hb⟩; have HPV4 := Lib.hid (HPV3.out.later hb); have HPW4 := Lib.hid (HPW3.out.later hb); have HB4 := Lib.hid (HB3.out.trans (hb.mono HB3.out.size)); clear hb HPV3 HPW3 HB3; obtain ⟨e0, e1, e2, e3, e4, e5, e6, e7, e8⟩ := HPV4.out.nine; obtain ⟨f0, f1, f2, f3, f4, f5, f6, f7, f8⟩ := HPV4.out.ninef; obtain ⟨g0, g1, g2, g3, g4, g5, g6, g7, g8⟩ := (nine_far HPW4.out HVL.out.2.2.symm (.int .i64 2) (.string ⟨#[]⟩) (.string ⟨#[]⟩) (.string (tx ds)) (.bool false) (.int .i64 0) (.int .i64 0) (.int .i64 0) (.slice none 0 0)).nine; obtain ⟨d0, d1, d2, d3, d4, d5, d6, d7, d8⟩ := (nine_far HPW4.out HVL.out.2.2.symm (.int .i64 2) (.string ⟨#[]⟩) (.string ⟨#[]⟩) (.string (tx ds)) (.bool false) (.int .i64 0) (.int .i64 0) (.int .i64 0) (.slice none 0 0)).ninef))
      go_meet
      exact ⟨Lib.hid (nine_far (HPV4.out.nine_set (.int .i64 2) (.string ⟨#[]⟩) (.string ⟨#[]⟩) (.string (tx ds)) (.bool false) (.int .i64 0) (.int .i64 0) (.int .i64 0) (.slice none 0 0)).1 HVL.out.2.2 (.int .i64 2) (.string ⟨#[]⟩) (.string ⟨#[]⟩) (.string (tx cs)) (.bool false) (.int .i64 0) (.int .i64 0) (.int .i64 0) (.slice none 0 0)), Lib.hid ((nine_far HPW4.out HVL.out.2.2.symm (.int .i64 2) (.string ⟨#[]⟩) (.string ⟨#[]⟩) (.string (tx ds)) (.bool false) (.int .i64 0) (.int .i64 0) (.int .i64 0) (.slice none 0 0)).nine_set (.int .i64 2) (.string ⟨#[]⟩) (.string ⟨#[]⟩) (.string (tx cs)) (.bool false) (.int .i64 0) (.int .i64 0) (.int .i64 0) (.slice none 0 0)).1, Lib.hid (below_nine (below_nine HB4.out HVL.out.1 (.int .i64 2) (.string ⟨#[]⟩) (.string ⟨#[]⟩) (.string (tx ds)) (.bool false) (.int .i64 0) (.int .i64 0) (.int .i64 0) (.slice none 0 0)) HVL.out.2.1 (.int .i64 2) (.string ⟨#[]⟩) (.string ⟨#[]⟩) (.string (tx cs)) (.bool false) (.int .i64 0) (.int .i64 0) (.int .i64 0) (.slice none 0 0))⟩
  case rest =>
  obtain ⟨HPV, HPW, HBc⟩ := hcut
  clear HT3 HT4 HV HK0 HK1 HB2 HVL
  have hwb := below_al wc (.cells #[.int .i64 2, .string ⟨#[]⟩, .string ⟨#[]⟩, .string (tx ds), .bool false, .int .i64 0, .int .i64 0, .int .i64 0, .slice none 0 0, .int .i64 2, .string ⟨#[]⟩, .string ⟨#[]⟩, .string (tx cs), .bool false, .int .i64 0, .int .i64 0, .int .i64 0, .slice none 0 0] 26)
  have hbw := HBc.out.trans (hwb.mono HBc.out.size)
  by_cases hex : ∃ n, n ≤ cs.length ∧ atC cs ds n = true
  · obtain ⟨n, hn, h1, h2⟩ := first_n _ _ hex
    have HFI := Lib.hid (show Calls Tryz.prog 8 #[.string ⟨#[70, 73, 78, 68]⟩, .slice (some ⟨wc.heap.size, 0, none⟩) 2 2] (wc.alloc (.cells #[.int .i64 2, .string ⟨#[]⟩, .string ⟨#[]⟩, .string (tx ds), .bool false, .int .i64 0, .int .i64 0, .int .i64 0, .slice none 0 0, .int .i64 2, .string ⟨#[]⟩, .string ⟨#[]⟩, .string (tx cs), .bool false, .int .i64 0, .int .i64 0, .int .i64 0, .slice none 0 0] 26)) fun e w' => e = .returned (.agg #[.int .i64 1, .string (nt (n + 1)), .string ⟨#[49]⟩, .string ⟨#[]⟩, .bool false, .int .i64 0, .int .i64 0, .int .i64 0, .slice none 0 0]) ∧ Below (wc.alloc (.cells #[.int .i64 2, .string ⟨#[]⟩, .string ⟨#[]⟩, .string (tx ds), .bool false, .int .i64 0, .int .i64 0, .int .i64 0, .slice none 0 0, .int .i64 2, .string ⟨#[]⟩, .string ⟨#[]⟩, .string (tx cs), .bool false, .int .i64 0, .int .i64 0, .int .i64 0, .slice none 0 0] 26)).heap.size (wc.alloc (.cells #[.int .i64 2, .string ⟨#[]⟩, .string ⟨#[]⟩, .string (tx ds), .bool false, .int .i64 0, .int .i64 0, .int .i64 0, .slice none 0 0, .int .i64 2, .string ⟨#[]⟩, .string ⟨#[]⟩, .string (tx cs), .bool false, .int .i64 0, .int .i64 0, .int .i64 0, .slice none 0 0] 26)) w' from c_Fin _ (some ⟨wc.heap.size, 0, none⟩) 2 cs ds HCS.out.1.1 HCS.out.2.1 HCS.out.1.2 HCS.out.2.2 n hn h1 h2 (HE.out.below hbw) (reads_newN wc _ [tV (tx ds), tV (tx cs)] rfl))
    have hn2 : n ≤ 32767 := Nat.le_trans hn HN.out
    have HXI := Lib.hid fun W => int_q (nt (n + 1)) ⟨#[49]⟩ (n + 1) 40 W (by omega) (pv_qk (n + 1) (by omega))
    have hks : (tx (cs.take n)).size = skB cs n := tx_size _
    have HLEF := Lib.hid (show ∀ W A c, VEnv W → Reads 9 csV W (.slice A 2 c) [tV (tx cs), nV n] → Calls Tryz.prog 8 #[.string ⟨#[76, 69, 70, 84]⟩, .slice A 2 c] W fun e w' => e = .returned (.agg #[.int .i64 2, .string ⟨#[]⟩, .string ⟨#[]⟩, .string (tx (cs.take n)), .bool false, .int .i64 0, .int .i64 0, .int .i64 0, .slice none 0 0]) ∧ Below W.heap.size W w' from fun W A c hW hA => c_Lef W A c cs HCS.out.1.1 HCS.out.1.2 n (by omega) hW hA)
    have HHP := Lib.hid (show ∀ W, Calls Tryz.prog 15 #[.string ((tx cs).extract (tx (cs.take n)).size (tx cs).size), .string (tx ds)] W fun e w' => e = .returned (.bool true) ∧ w' = W from fun W => by
      rw [hks, tx_drop]
      exact hp_c cs ds n W true h1)
    have HIX := Lib.hid (show ∀ W, VEnv W → Calls Tryz.prog 16 #[.string (tx cs), .string (tx ds)] W fun e w' => e = .returned (.int .i64 ((tx (cs.take n)).size : Int)) ∧ w' = W from fun W hW => by
      obtain ⟨mm, hmm⟩ := hW.mx
      have h := Tryz.strings_Index (tx cs) (tx ds) mm W (by omega) hmm
      rw [tx_data, tx_data, index_at HCS.out.1.1 HCS.out.2.1 hn h1 h2] at h
      rw [hks]
      exact h)
    have HTB := Lib.hid (show ∀ W, VEnv W → Calls Tryz.prog 7 #[.string (tx (cs.take n))] W fun e w' => e = .returned (.agg #[.int .i64 2, .string ⟨#[]⟩, .string ⟨#[]⟩, .string (tx (cs.take n)), .bool false, .int .i64 0, .int .i64 0, .int .i64 0, .slice none 0 0]) ∧ Below W.heap.size W w' from fun W hW => by
      have h0 := txtE_chs (HCS.out.1.1.take n) (Nat.le_trans (tx_take_le cs n) HCS.out.1.2)
      exact text_t (tx (cs.take n)) W hW h0 (Nat.le_trans (txtE_size h0) (by decide)))
    have HBE := Lib.hid (show ds ≠ [] → ∀ W A c, VEnv W → Reads 9 csV W (.slice A 2 c) [tV (tx cs), tV (tx ds)] → Calls Tryz.prog 8 #[.string ⟨#[84, 69, 88, 84, 66, 69, 70, 79, 82, 69]⟩, .slice A 2 c] W fun e w' => e = .returned (.agg #[.int .i64 2, .string ⟨#[]⟩, .string ⟨#[]⟩, .string (tx (cs.take n)), .bool false, .int .i64 0, .int .i64 0, .int .i64 0, .slice none 0 0]) ∧ Below W.heap.size W w' from fun hne W A c hW hA => c_Bef W A c cs ds HCS.out.1.1 HCS.out.2.1 HCS.out.1.2 HCS.out.2.2 hne n hn h1 h2 hW hA)
    have hle : (tx (cs.take n)).size ≤ (tx cs).size := tx_take_le cs n
    clear h1 h2 hks hex hn hbw
    obtain ⟨e0, e1, e2, e3, e4, e5, e6, e7, e8⟩ := HPV.out.nine
    obtain ⟨g0, g1, g2, g3, g4, g5, g6, g7, g8⟩ := HPW.out.nine
    go_upto_region 5 with (go_at_call 8; (with_reducible refine HFI.out.mono ?_); rintro e w3 ⟨rfl, hb⟩; have HB3 := Lib.hid hb; clear hb)
    clear e0 e1 e2 e3 e4 e5 e6 e7 e8 g0 g1 g2 g3 g4 g5 g6 g7 g8
    have hb1 := hwb.trans (HB3.out.mono hwb.size)
    have hba := below_al w3 (.cells #[.int .i64 1, .string (nt (n + 1)), .string ⟨#[49]⟩, .string ⟨#[]⟩, .bool false, .int .i64 0, .int .i64 0, .int .i64 0, .slice none 0 0] 26)
    have hb2 := hb1.trans (hba.mono hb1.size)
    have HPU := Lib.hid (Blk.new w3 26 #[.int .i64 1, .string (nt (n + 1)), .string ⟨#[49]⟩, .string ⟨#[]⟩, .bool false, .int .i64 0, .int .i64 0, .int .i64 0, .slice none 0 0])
    have HPVn := Lib.hid (HPV.out.later hb2)
    have HPWn := Lib.hid (HPW.out.later hb2)
    have HB := Lib.hid (HBc.out.trans (hb2.mono HBc.out.size))
    clear hb1 hba hb2 HFI HPV HPW HBc HB3 hwb
    revert HPU HPVn HPWn HB
    generalize w3.alloc (.cells #[.int .i64 1, .string (nt (n + 1)), .string ⟨#[49]⟩, .string ⟨#[]⟩, .bool false, .int .i64 0, .int .i64 0, .int .i64 0, .slice none 0 0] 26) = w4
    generalize w3.heap.size = U
    intro HPU HPVn HPWn HB
    obtain ⟨e0, e1, e2, e3, e4, e5, e6, e7, e8⟩ := HPU.out.nine
    go_upto_region 10 with (go_at_call 9; (with_reducible refine (HXI.out _).mono ?_); rintro e w5 ⟨rfl, hb⟩; have HPV5 := Lib.hid (HPVn.out.later hb); have HPW5 := Lib.hid (HPWn.out.later hb); have HB5 := Lib.hid (HB.out.trans (hb.mono HB.out.size)); clear hb HPVn HPWn HB)
    clear e0 e1 e2 e3 e4 e5 e6 e7 e8
    have HCT := Lib.hid (show ∀ w', Below w5.heap.size w5 w' → VEnv w' from fun w' h => HE.out.below (HB5.out.trans (h.mono HB5.out.size)))
    have HSS := Lib.hid (show ∀ w', Below w5.heap.size w5 w' → w'.cell? ⟨V, 0, none⟩ = some (.int .i64 2) ∧ w'.cell? ⟨V, 1, none⟩ = some (.string ⟨#[]⟩) ∧ w'.cell? ⟨V, 2, none⟩ = some (.string ⟨#[]⟩) ∧ w'.cell? ⟨V, 3, none⟩ = some (.string (tx ds)) ∧ w'.cell? ⟨V, 4, none⟩ = some (.bool false) ∧ w'.cell? ⟨V, 5, none⟩ = some (.int .i64 0) ∧ w'.cell? ⟨V, 6, none⟩ = some (.int .i64 0) ∧ w'.cell? ⟨V, 7, none⟩ = some (.int .i64 0) ∧ w'.cell? ⟨V, 8, none⟩ = some (.slice none 0 0) ∧ w'.cell? ⟨Wb, 0, none⟩ = some (.int .i64 2) ∧ w'.cell? ⟨Wb, 1, none⟩ = some (.string ⟨#[]⟩) ∧ w'.cell? ⟨Wb, 2, none⟩ = some (.string ⟨#[]⟩) ∧ w'.cell? ⟨Wb, 3, none⟩ = some (.string (tx cs)) ∧ w'.cell? ⟨Wb, 4, none⟩ = some (.bool false) ∧ w'.cell? ⟨Wb, 5, none⟩ = some (.int .i64 0) ∧ w'.cell? ⟨Wb, 6, none⟩ = some (.int .i64 0) ∧ w'.cell? ⟨Wb, 7, none⟩ = some (.int .i64 0) ∧ w'.cell? ⟨Wb, 8, none⟩ = some (.slice none 0 0) from fun w' h => ⟨(HPV5.out.later h).cell 0, (HPV5.out.later h).cell 1, (HPV5.out.later h).cell 2, (HPV5.out.later h).cell 3, (HPV5.out.later h).cell 4, (HPV5.out.later h).cell 5, (HPV5.out.later h).cell 6, (HPV5.out.later h).cell 7, (HPV5.out.later h).cell 8, (HPW5.out.later h).cell 0, (HPW5.out.later h).cell 1, (HPW5.out.later h).cell 2, (HPW5.out.later h).cell 3, (HPW5.out.later h).cell 4, (HPW5.out.later h).cell 5, (HPW5.out.later h).cell 6, (HPW5.out.later h).cell 7, (HPW5.out.later h).cell 8⟩)
    go_cut [11] (fun u11 wz => u11 = .string (tx (cs.take n)) ∧ Hid (Below w5.heap.size w5 wz))
    case first =>
      refine wp_region_G (S1 := fun w' => w'.cell? ⟨V, 0, none⟩ = some (.int .i64 2) ∧ w'.cell? ⟨V, 1, none⟩ = some (.string ⟨#[]⟩) ∧ w'.cell? ⟨V, 2, none⟩ = some (.string ⟨#[]⟩) ∧ w'.cell? ⟨V, 3, none⟩ = some (.string (tx ds)) ∧ w'.cell? ⟨V, 4, none⟩ = some (.bool false) ∧ w'.cell? ⟨V, 5, none⟩ = some (.int .i64 0) ∧ w'.cell? ⟨V, 6, none⟩ = some (.int .i64 0) ∧ w'.cell? ⟨V, 7, none⟩ = some (.int .i64 0) ∧ w'.cell? ⟨V, 8, none⟩ = some (.slice none 0 0) ∧ w'.cell? ⟨Wb, 0, none⟩ = some (.int .i64 2) ∧ w'.cell? ⟨Wb, 1, none⟩ = some (.string ⟨#[]⟩) ∧ w'.cell? ⟨Wb, 2, none⟩ = some (.string ⟨#[]⟩) ∧ w'.cell? ⟨Wb, 3, none⟩ = some (.string (tx cs)) ∧ w'.cell? ⟨Wb, 4, none⟩ = some (.bool false) ∧ w'.cell? ⟨Wb, 5, none⟩ = some (.int .i64 0) ∧ w'.cell? ⟨Wb, 6, none⟩ = some (.int .i64 0) ∧ w'.cell? ⟨Wb, 7, none⟩ = some (.int .i64 0) ∧ w'.cell? ⟨Wb, 8, none⟩ = some (.slice none 0 0)) (S2 := fun _ => True) (d := 99) (by kernel_rfl) (HSS.out _ (Below.refl _ w5).drew) trivial (fun hT => ?_)
      refine wpAnyG_take1d (i := 0) (v := ?_) rfl rfl (by kernel_rfl) (by kernel_rfl) (by kernel_rfl) (by kernel_rfl) (fun _ _ _ h => h) (Or.inl ⟨by rfl, ?_⟩) (by assumption) (fun hT => ?_)
      rotate_left
      · intro w hSw
        (try dsimp only at hSw)
        go_simp
        (try with_reducible rfl)
      (try simp only [Act.put, List.setIfInBounds_toArray, List.set_cons_zero, List.set_cons_succ])
      refine wpAnyG_take1d (i := 1) (v := ?_) rfl rfl (by kernel_rfl) (by kernel_rfl) (by kernel_rfl) (by kernel_rfl) (fun _ _ _ h => h) (Or.inl ⟨by rfl, ?_⟩) (by assumption) (fun hT => ?_)
      rotate_left
      · intro w hSw
        (try dsimp only at hSw)
        go_simp
        (try with_reducible rfl)
      (try simp only [Act.put, List.setIfInBounds_toArray, List.set_cons_zero, List.set_cons_succ])
      refine wpAnyG_take1d (i := 2) (v := ?_) rfl rfl (by kernel_rfl) (by kernel_rfl) (by kernel_rfl) (by kernel_rfl) (fun _ _ _ h => h) (Or.inl ⟨by rfl, ?_⟩) (by assumption) (fun hT => ?_)
      rotate_left
      · intro w hSw
        (try dsimp only at hSw)
        go_simp
        (try with_reducible rfl)
      (try simp only [Act.put, List.setIfInBounds_toArray, List.set_cons_zero, List.set_cons_succ])
      refine wpAnyG_ready (rs := [3]) (by kernel_rfl) (by simp) ?_
      refine AllG.cons (i := 3) rfl (fun K hK => ?_) AllG.nil
      go_simp
      go_at_call 11
      (with_reducible refine (whole_x _ n _ (HCT.out _ (by first | exact Below.refl _ w5 | exact (Below.refl _ w5).drew)) ?_ (by omega)).mono ?_)
      · first | rfl | omega | (rw [IntWalk.i64_in _ (by omega)] <;> omega)
      rintro e b3 ⟨rfl, hb⟩
      have HSb3 := Lib.hid (show Below w5.heap.size w5 b3 from by first | exact hb | exact (Below.refl _ w5).drew.trans hb)
      clear hb
      refine hK.out _ _ ⟨HSS.out _ HSb3.out, .inr trivial⟩ (fun hT => ?_)
      clear hK K
      (try simp only [Act.put, List.setIfInBounds_toArray, List.set_cons_zero, List.set_cons_succ])
      refine wpAnyG_ready (rs := [4]) (by kernel_rfl) (by simp) ?_
      refine AllG.cons (i := 4) rfl (fun K hK => ?_) AllG.nil
      go_simp
      refine gen_w ?_
      intro b4 hwa
      have HSb4 := Lib.hid (show Below b3.heap.size b3 b4 from by rw [hwa]; first | exact below_al b3 _ | exact (below_al b3 _).drew)
      have HBb4 := Lib.hid (show Reads 9 csV b4 (.slice (some ⟨b3.heap.size, 0, none⟩) 2 2) [tV (tx cs), nV n] from by rw [hwa]; exact reads_newN b3 _ [tV (tx cs), nV n] rfl)
      clear hwa
      refine hK.out _ _ ⟨HSS.out _ (below_tr HSb3.out HSb4.out), .inr trivial⟩ (fun hT => ?_)
      clear hK K
      (try simp only [Act.put, List.setIfInBounds_toArray, List.set_cons_zero, List.set_cons_succ])
      refine wpAnyG_ready (rs := [5]) (by kernel_rfl) (by simp) ?_
      refine AllG.cons (i := 5) rfl (fun K hK => ?_) AllG.nil
      go_simp
      go_at_call 8
      (with_reducible refine (HLEF.out _ _ _ (HCT.out _ (below_tr HSb3.out HSb4.out)) (HBb4.out.below (Below.refl _ b4))).mono ?_)
      rintro e b5 ⟨rfl, hb⟩
      have HSb5 := Lib.hid (show Below b4.heap.size b4 b5 from by first | exact hb | exact (Below.refl _ b4).drew.trans hb)
      clear hb
      refine hK.out _ _ ⟨HSS.out _ (below_tr (below_tr HSb3.out HSb4.out) HSb5.out), .inr trivial⟩ (fun hT => ?_)
      clear hK K
      (try simp only [Act.put, List.setIfInBounds_toArray, List.set_cons_zero, List.set_cons_succ])
      refine wpAnyG_take1d (i := 6) (v := .string (tx (cs.take n))) rfl rfl (by kernel_rfl) (by kernel_rfl) (by kernel_rfl) (by kernel_rfl) (fun _ _ _ h => h) (Or.inl ⟨by rfl, ?_⟩) (by assumption) (fun hT => ?_)
      · intro w hSw
        (try dsimp only at hSw)
        go_simp
        (try first | (with_reducible rfl) | rfl | kernel_rfl)
      (try simp only [Act.put, List.setIfInBounds_toArray, List.set_cons_zero, List.set_cons_succ])
      refine wpAnyG_take1d (i := 7) (v := ?_) rfl rfl (by kernel_rfl) (by kernel_rfl) (by kernel_rfl) (by kernel_rfl) (fun _ _ _ h => h) (Or.inl ⟨by rfl, ?_⟩) (by assumption) (fun hT => ?_)
      rotate_left
      · intro w hSw
        (try dsimp only at hSw)
        go_simp
        (try with_reducible rfl)
      (try simp only [Act.put, List.setIfInBounds_toArray, List.set_cons_zero, List.set_cons_succ])
      refine wpAnyG_done (by kernel_rfl) ?_ _
      clear hT
      go_wp2_with fail
      go_meet
      exact ⟨rfl, Lib.hid (below_tr (below_tr HSb3.out HSb4.out) HSb5.out)⟩
    case rest =>
      obtain ⟨rfl, HBR⟩ := hcut
      have HPVc := Lib.hid (HPV5.out.later HBR.out)
      have HPWc := Lib.hid (HPW5.out.later HBR.out)
      have HBW := Lib.hid (HB5.out.trans (HBR.out.mono HB5.out.size))
      clear HSS HCT HLEF HPV5 HPW5 HB5 HBR
      have HCT := Lib.hid (show ∀ w', Below wc.heap.size wc w' → VEnv w' from fun w' h => HE.out.below (HBW.out.trans (h.mono HBW.out.size)))
      have HSS := Lib.hid (show ∀ w', Below wc.heap.size wc w' → w'.cell? ⟨V, 0, none⟩ = some (.int .i64 2) ∧ w'.cell? ⟨V, 1, none⟩ = some (.string ⟨#[]⟩) ∧ w'.cell? ⟨V, 2, none⟩ = some (.string ⟨#[]⟩) ∧ w'.cell? ⟨V, 3, none⟩ = some (.string (tx ds)) ∧ w'.cell? ⟨V, 4, none⟩ = some (.bool false) ∧ w'.cell? ⟨V, 5, none⟩ = some (.int .i64 0) ∧ w'.cell? ⟨V, 6, none⟩ = some (.int .i64 0) ∧ w'.cell? ⟨V, 7, none⟩ = some (.int .i64 0) ∧ w'.cell? ⟨V, 8, none⟩ = some (.slice none 0 0) ∧ w'.cell? ⟨Wb, 0, none⟩ = some (.int .i64 2) ∧ w'.cell? ⟨Wb, 1, none⟩ = some (.string ⟨#[]⟩) ∧ w'.cell? ⟨Wb, 2, none⟩ = some (.string ⟨#[]⟩) ∧ w'.cell? ⟨Wb, 3, none⟩ = some (.string (tx cs)) ∧ w'.cell? ⟨Wb, 4, none⟩ = some (.bool false) ∧ w'.cell? ⟨Wb, 5, none⟩ = some (.int .i64 0) ∧ w'.cell? ⟨Wb, 6, none⟩ = some (.int .i64 0) ∧ w'.cell? ⟨Wb, 7, none⟩ = some (.int .i64 0) ∧ w'.cell? ⟨Wb, 8, none⟩ = some (.slice none 0 0) from fun w' h => ⟨(HPVc.out.later h).cell 0, (HPVc.out.later h).cell 1, (HPVc.out.later h).cell 2, (HPVc.out.later h).cell 3, (HPVc.out.later h).cell 4, (HPVc.out.later h).cell 5, (HPVc.out.later h).cell 6, (HPVc.out.later h).cell 7, (HPVc.out.later h).cell 8, (HPWc.out.later h).cell 0, (HPWc.out.later h).cell 1, (HPWc.out.later h).cell 2, (HPWc.out.later h).cell 3, (HPWc.out.later h).cell 4, (HPWc.out.later h).cell 5, (HPWc.out.later h).cell 6, (HPWc.out.later h).cell 7, (HPWc.out.later h).cell 8⟩)
      go_upto_region 11 with fail
      by_cases hd0 : ds = []
      · have hne1 : (tx ds).toList = [] := by rw [hd0, Lib.toList_data, tx_data]; rfl
        clear hd0
        refine wp_region_G (S1 := fun w' => w'.cell? ⟨V, 0, none⟩ = some (.int .i64 2) ∧ w'.cell? ⟨V, 1, none⟩ = some (.string ⟨#[]⟩) ∧ w'.cell? ⟨V, 2, none⟩ = some (.string ⟨#[]⟩) ∧ w'.cell? ⟨V, 3, none⟩ = some (.string (tx ds)) ∧ w'.cell? ⟨V, 4, none⟩ = some (.bool false) ∧ w'.cell? ⟨V, 5, none⟩ = some (.int .i64 0) ∧ w'.cell? ⟨V, 6, none⟩ = some (.int .i64 0) ∧ w'.cell? ⟨V, 7, none⟩ = some (.int .i64 0) ∧ w'.cell? ⟨V, 8, none⟩ = some (.slice none 0 0) ∧ w'.cell? ⟨Wb, 0, none⟩ = some (.int .i64 2) ∧ w'.cell? ⟨Wb, 1, none⟩ = some (.string ⟨#[]⟩) ∧ w'.cell? ⟨Wb, 2, none⟩ = some (.string ⟨#[]⟩) ∧ w'.cell? ⟨Wb, 3, none⟩ = some (.string (tx cs)) ∧ w'.cell? ⟨Wb, 4, none⟩ = some (.bool false) ∧ w'.cell? ⟨Wb, 5, none⟩ = some (.int .i64 0) ∧ w'.cell? ⟨Wb, 6, none⟩ = some (.int .i64 0) ∧ w'.cell? ⟨Wb, 7, none⟩ = some (.int .i64 0) ∧ w'.cell? ⟨Wb, 8, none⟩ = some (.slice none 0 0)) (S2 := fun _ => True) (d := 99) (by kernel_rfl) (HSS.out _ (Below.refl _ wc).drew) trivial (fun hT => ?_)
        refine wpAnyG_take1d (i := 0) (v := ?_) rfl rfl (by kernel_rfl) (by kernel_rfl) (by kernel_rfl) (by kernel_rfl) (fun _ _ _ h => h) (Or.inl ⟨by rfl, ?_⟩) (by assumption) (fun hT => ?_)
        rotate_left
        · intro w hSw
          (try dsimp only at hSw)
          go_simp
          (try with_reducible rfl)
        (try simp only [Act.put, List.setIfInBounds_toArray, List.set_cons_zero, List.set_cons_succ])
        refine wpAnyG_take1d (i := 1) (v := ?_) rfl rfl (by kernel_rfl) (by kernel_rfl) (by kernel_rfl) (by kernel_rfl) (fun _ _ _ h => h) (Or.inl ⟨by rfl, ?_⟩) (by assumption) (fun hT => ?_)
        rotate_left
        · intro w hSw
          (try dsimp only at hSw)
          go_simp
          (try with_reducible rfl)
        (try simp only [Act.put, List.setIfInBounds_toArray, List.set_cons_zero, List.set_cons_succ])
        refine wpAnyG_take1d (i := 2) (v := ?_) rfl rfl (by kernel_rfl) (by kernel_rfl) (by kernel_rfl) (by kernel_rfl) (fun _ _ _ h => h) (Or.inl ⟨by rfl, ?_⟩) (by assumption) (fun hT => ?_)
        rotate_left
        · intro w hSw
          (try dsimp only at hSw)
          go_simp
          (try with_reducible rfl)
        (try simp only [Act.put, List.setIfInBounds_toArray, List.set_cons_zero, List.set_cons_succ])
        refine wpAnyG_take1d (i := 3) (v := ?_) rfl rfl (by kernel_rfl) (by kernel_rfl) (by kernel_rfl) (by kernel_rfl) (fun _ _ _ h => h) (Or.inl ⟨by rfl, ?_⟩) (by assumption) (fun hT => ?_)
        rotate_left
        · intro w hSw
          (try dsimp only at hSw)
          go_simp
          (try with_reducible rfl)
        (try simp only [Act.put, List.setIfInBounds_toArray, List.set_cons_zero, List.set_cons_succ])
        refine wpAnyG_take1d (i := 4) (v := ?_) rfl rfl (by kernel_rfl) (by kernel_rfl) (by kernel_rfl) (by kernel_rfl) (fun _ _ _ h => h) (Or.inl ⟨by rfl, ?_⟩) (by assumption) (fun hT => ?_)
        rotate_left
        · intro w hSw
          (try dsimp only at hSw)
          go_simp
          (try with_reducible rfl)
        (try simp only [Act.put, List.setIfInBounds_toArray, List.set_cons_zero, List.set_cons_succ])
        refine wpAnyG_take1d (i := 5) (v := ?_) rfl rfl (by kernel_rfl) (by kernel_rfl) (by kernel_rfl) (by kernel_rfl) (fun _ _ _ h => h) (Or.inl ⟨by rfl, ?_⟩) (by assumption) (fun hT => ?_)
        rotate_left
        · intro w hSw
          (try dsimp only at hSw)
          go_simp
          (try with_reducible rfl)
        (try simp only [Act.put, List.setIfInBounds_toArray, List.set_cons_zero, List.set_cons_succ])
        refine wpAnyG_take1d (i := 6) (v := ?_) rfl rfl (by kernel_rfl) (by kernel_rfl) (by kernel_rfl) (by kernel_rfl) (fun _ _ _ h => h) (Or.inl ⟨by rfl, ?_⟩) (by assumption) (fun hT => ?_)
        rotate_left
        · intro w hSw
          (try dsimp only at hSw)
          go_simp
          (try with_reducible rfl)
        (try simp only [Act.put, List.setIfInBounds_toArray, List.set_cons_zero, List.set_cons_succ])
        refine wpAnyG_ready (rs := [7]) (by kernel_rfl) (by simp) ?_
        refine AllG.cons (i := 7) rfl (fun K hK => ?_) AllG.nil
        go_simp
        go_at_call 15
        (with_reducible refine (HHP.out _).mono ?_)
        rintro e p7 ⟨rfl, hw⟩
        have HSp7 := Lib.hid (show Below wc.heap.size wc p7 from by rw [hw]; first | exact Below.refl _ wc | exact (Below.refl _ wc).drew)
        clear hw
        refine hK.out _ _ ⟨HSS.out _ HSp7.out, .inr trivial⟩ (fun hT => ?_)
        clear hK K
        (try simp only [Act.put, List.setIfInBounds_toArray, List.set_cons_zero, List.set_cons_succ])
        refine wpAnyG_take1d (i := 8) (v := ?_) rfl rfl (by kernel_rfl) (by kernel_rfl) (by kernel_rfl) (by kernel_rfl) (fun _ _ _ h => h) (Or.inl ⟨by rfl, ?_⟩) (by assumption) (fun hT => ?_)
        rotate_left
        · intro w hSw
          (try dsimp only at hSw)
          go_simp
          (try with_reducible rfl)
        (try simp only [Act.put, List.setIfInBounds_toArray, List.set_cons_zero, List.set_cons_succ])
        refine wpAnyG_take1d (i := 9) (v := ?_) rfl rfl (by kernel_rfl) (by kernel_rfl) (by kernel_rfl) (by kernel_rfl) (fun _ _ _ h => h) (Or.inl ⟨by rfl, ?_⟩) (by assumption) (fun hT => ?_)
        rotate_left
        · intro w hSw
          (try dsimp only at hSw)
          go_simp
          (try with_reducible rfl)
        (try simp only [Act.put, List.setIfInBounds_toArray, List.set_cons_zero, List.set_cons_succ])
        refine wpAnyG_take1d (i := 10) (v := ?_) rfl rfl (by kernel_rfl) (by kernel_rfl) (by kernel_rfl) (by kernel_rfl) (fun _ _ _ h => h) (Or.inl ⟨by rfl, ?_⟩) (by assumption) (fun hT => ?_)
        rotate_left
        · intro w hSw
          (try dsimp only at hSw)
          go_simp
          (try with_reducible rfl)
        (try simp only [Act.put, List.setIfInBounds_toArray, List.set_cons_zero, List.set_cons_succ])
        refine wpAnyG_take1d (i := 11) (v := ?_) rfl rfl (by kernel_rfl) (by kernel_rfl) (by kernel_rfl) (by kernel_rfl) (fun _ _ _ h => h) (Or.inl ⟨by rfl, ?_⟩) (by assumption) (fun hT => ?_)
        rotate_left
        · intro w hSw
          (try dsimp only at hSw)
          go_simp
          (try with_reducible rfl)
        (try simp only [Act.put, List.setIfInBounds_toArray, List.set_cons_zero, List.set_cons_succ])
        refine wpAnyG_take1d (i := 12) (v := ?_) rfl rfl (by kernel_rfl) (by kernel_rfl) (by kernel_rfl) (by kernel_rfl) (fun _ _ _ h => h) (Or.inl ⟨by rfl, ?_⟩) (by assumption) (fun hT => ?_)
        rotate_left
        · intro w hSw
          (try dsimp only at hSw)
          go_simp
          (try with_reducible rfl)
        (try simp only [Act.put, List.setIfInBounds_toArray, List.set_cons_zero, List.set_cons_succ])
        refine wpAnyG_take1d (i := 14) (v := ?_) rfl rfl (by kernel_rfl) (by kernel_rfl) (by kernel_rfl) (by kernel_rfl) (fun _ _ _ h => h) (Or.inl ⟨by rfl, ?_⟩) (by assumption) (fun hT => ?_)
        rotate_left
        · intro w hSw
          (try dsimp only at hSw)
          go_simp
          (try with_reducible rfl)
        (try simp only [Act.put, List.setIfInBounds_toArray, List.set_cons_zero, List.set_cons_succ])
        refine wpAnyG_take1d (i := 15) (v := ?_) rfl rfl (by kernel_rfl) (by kernel_rfl) (by kernel_rfl) (by kernel_rfl) (fun _ _ _ h => h) (Or.inl ⟨by rfl, ?_⟩) (by assumption) (fun hT => ?_)
        rotate_left
        · intro w hSw
          (try dsimp only at hSw)
          go_simp
          (try with_reducible rfl)
        (try simp only [Act.put, List.setIfInBounds_toArray, List.set_cons_zero, List.set_cons_succ])
        refine wpAnyG_ready (rs := [13]) (by kernel_rfl) (by simp) ?_
        refine AllG.cons (i := 13) rfl (fun K hK => ?_) AllG.nil
        go_simp
        go_at_call 16
        (with_reducible refine (HIX.out _ (HCT.out _ HSp7.out)).mono ?_)
        rintro e p13 ⟨rfl, hw⟩
        have HSp13 := Lib.hid (show Below p7.heap.size p7 p13 from by rw [hw]; first | exact Below.refl _ p7 | exact (Below.refl _ p7).drew)
        clear hw
        refine hK.out _ _ ⟨HSS.out _ (below_tr HSp7.out HSp13.out), .inr trivial⟩ (fun hT => ?_)
        clear hK K
        (try simp only [Act.put, List.setIfInBounds_toArray, List.set_cons_zero, List.set_cons_succ])
        refine wpAnyG_take1d (i := 16) (v := ?_) rfl rfl (by kernel_rfl) (by kernel_rfl) (by kernel_rfl) (by kernel_rfl) (fun _ _ _ h => h) (Or.inl ⟨by rfl, ?_⟩) (by assumption) (fun hT => ?_)
        rotate_left
        · intro w hSw
          (try dsimp only at hSw)
          go_simp
          (try with_reducible rfl)
        (try simp only [Act.put, List.setIfInBounds_toArray, List.set_cons_zero, List.set_cons_succ])
        refine wpAnyG_take1d (i := 17) (v := ?_) rfl rfl (by kernel_rfl) (by kernel_rfl) (by kernel_rfl) (by kernel_rfl) (fun _ _ _ h => h) (Or.inl ⟨by rfl, ?_⟩) (by assumption) (fun hT => ?_)
        rotate_left
        · intro w hSw
          (try dsimp only at hSw)
          go_simp
          (try with_reducible rfl)
        (try simp only [Act.put, List.setIfInBounds_toArray, List.set_cons_zero, List.set_cons_succ])
        refine wpAnyG_take1d (i := 18) (v := ?_) rfl rfl (by kernel_rfl) (by kernel_rfl) (by kernel_rfl) (by kernel_rfl) (fun _ _ _ h => h) (Or.inl ⟨by rfl, ?_⟩) (by assumption) (fun hT => ?_)
        rotate_left
        · intro w hSw
          (try dsimp only at hSw)
          go_simp
          (try with_reducible rfl)
        (try simp only [Act.put, List.setIfInBounds_toArray, List.set_cons_zero, List.set_cons_succ])
        refine wpAnyG_take1d (i := 19) (v := ?_) rfl rfl (by kernel_rfl) (by kernel_rfl) (by kernel_rfl) (by kernel_rfl) (fun _ _ _ h => h) (Or.inl ⟨by rfl, ?_⟩) (by assumption) (fun hT => ?_)
        rotate_left
        · intro w hSw
          (try dsimp only at hSw)
          go_simp
          (try with_reducible rfl)
        (try simp only [Act.put, List.setIfInBounds_toArray, List.set_cons_zero, List.set_cons_succ])
        refine wpAnyG_take1d (i := 20) (v := ?_) rfl rfl (by kernel_rfl) (by kernel_rfl) (by kernel_rfl) (by kernel_rfl) (fun _ _ _ h => h) (Or.inl ⟨by rfl, ?_⟩) (by assumption) (fun hT => ?_)
        rotate_left
        · intro w hSw
          (try dsimp only at hSw)
          go_simp
          (try with_reducible rfl)
        (try simp only [Act.put, List.setIfInBounds_toArray, List.set_cons_zero, List.set_cons_succ])
        refine wpAnyG_take1d (i := 21) (v := .bool true) rfl rfl (by kernel_rfl) (by kernel_rfl) (by kernel_rfl) (by kernel_rfl) (fun _ _ _ h => h) (Or.inl ⟨by rfl, ?_⟩) (by assumption) (fun hT => ?_)
        · intro w hSw
          (try dsimp only at hSw)
          go_simp
          (try first | (with_reducible rfl) | rfl | (simp [hne1]) | kernel_rfl)
        (try simp only [Act.put, List.setIfInBounds_toArray, List.set_cons_zero, List.set_cons_succ])
        refine wpAnyG_take1d (i := 22) (v := ?_) rfl rfl (by kernel_rfl) (by kernel_rfl) (by kernel_rfl) (by kernel_rfl) (fun _ _ _ h => h) (Or.inl ⟨by rfl, ?_⟩) (by assumption) (fun hT => ?_)
        rotate_left
        · intro w hSw
          (try dsimp only at hSw)
          go_simp
          (try with_reducible rfl)
        (try simp only [Act.put, List.setIfInBounds_toArray, List.set_cons_zero, List.set_cons_succ])
        refine wpAnyG_take1d (i := 23) (v := undef) rfl rfl (by kernel_rfl) (by kernel_rfl) (by kernel_rfl) (by kernel_rfl) (fun _ _ _ h => h) (Or.inr ⟨by rfl, rfl⟩) (by assumption) (fun hT => ?_)
        (try simp only [Act.put, List.setIfInBounds_toArray, List.set_cons_zero, List.set_cons_succ])
        refine wpAnyG_take1d (i := 24) (v := undef) rfl rfl (by kernel_rfl) (by kernel_rfl) (by kernel_rfl) (by kernel_rfl) (fun _ _ _ h => h) (Or.inr ⟨by rfl, rfl⟩) (by assumption) (fun hT => ?_)
        (try simp only [Act.put, List.setIfInBounds_toArray, List.set_cons_zero, List.set_cons_succ])
        refine wpAnyG_take1d (i := 27) (v := undef) rfl rfl (by kernel_rfl) (by kernel_rfl) (by kernel_rfl) (by kernel_rfl) (fun _ _ _ h => h) (Or.inr ⟨by rfl, rfl⟩) (by assumption) (fun hT => ?_)
        (try simp only [Act.put, List.setIfInBounds_toArray, List.set_cons_zero, List.set_cons_succ])
        refine wpAnyG_take1d (i := 25) (v := undef) rfl rfl (by kernel_rfl) (by kernel_rfl) (by kernel_rfl) (by kernel_rfl) (fun _ _ _ h => h) (Or.inr ⟨by rfl, rfl⟩) (by assumption) (fun hT => ?_)
        (try simp only [Act.put, List.setIfInBounds_toArray, List.set_cons_zero, List.set_cons_succ])
        refine wpAnyG_take1d (i := 26) (v := undef) rfl rfl (by kernel_rfl) (by kernel_rfl) (by kernel_rfl) (by kernel_rfl) (fun _ _ _ h => h) (Or.inr ⟨by rfl, rfl⟩) (by assumption) (fun hT => ?_)
        (try simp only [Act.put, List.setIfInBounds_toArray, List.set_cons_zero, List.set_cons_succ])
        refine wpAnyG_take1d (i := 28) (v := undef) rfl rfl (by kernel_rfl) (by kernel_rfl) (by kernel_rfl) (by kernel_rfl) (fun _ _ _ h => h) (Or.inr ⟨by rfl, rfl⟩) (by assumption) (fun hT => ?_)
        (try simp only [Act.put, List.setIfInBounds_toArray, List.set_cons_zero, List.set_cons_succ])
        refine wpAnyG_take1d (i := 29) (v := undef) rfl rfl (by kernel_rfl) (by kernel_rfl) (by kernel_rfl) (by kernel_rfl) (fun _ _ _ h => h) (Or.inr ⟨by rfl, rfl⟩) (by assumption) (fun hT => ?_)
        (try simp only [Act.put, List.setIfInBounds_toArray, List.set_cons_zero, List.set_cons_succ])
        refine wpAnyG_take1d (i := 30) (v := ?_) rfl rfl (by kernel_rfl) (by kernel_rfl) (by kernel_rfl) (by kernel_rfl) (fun _ _ _ h => h) (Or.inl ⟨by rfl, ?_⟩) (by assumption) (fun hT => ?_)
        rotate_left
        · intro w hSw
          (try dsimp only at hSw)
          go_simp
          (try with_reducible rfl)
        (try simp only [Act.put, List.setIfInBounds_toArray, List.set_cons_zero, List.set_cons_succ])
        refine wpAnyG_take1d (i := 31) (v := ?_) rfl rfl (by kernel_rfl) (by kernel_rfl) (by kernel_rfl) (by kernel_rfl) (fun _ _ _ h => h) (Or.inl ⟨by rfl, ?_⟩) (by assumption) (fun hT => ?_)
        rotate_left
        · intro w hSw
          (try dsimp only at hSw)
          go_simp
          (try with_reducible rfl)
        (try simp only [Act.put, List.setIfInBounds_toArray, List.set_cons_zero, List.set_cons_succ])
        refine wpAnyG_take1d (i := 32) (v := ?_) rfl rfl (by kernel_rfl) (by kernel_rfl) (by kernel_rfl) (by kernel_rfl) (fun _ _ _ h => h) (Or.inl ⟨by rfl, ?_⟩) (by assumption) (fun hT => ?_)
        rotate_left
        · intro w hSw
          (try dsimp only at hSw)
          go_simp
          (try with_reducible rfl)
        (try simp only [Act.put, List.setIfInBounds_toArray, List.set_cons_zero, List.set_cons_succ])
        refine wpAnyG_done (by kernel_rfl) ?_ _
        clear hT
        go_wp2_with fail
        go_ret
        exact ⟨rfl, HBW.out.trans ((below_tr HSp7.out HSp13.out).mono HBW.out.size)⟩
      · have hne2 : ¬ (tx ds).toList = [] := tx_nil_l HCS.out.2.1 (i := 0) (List.length_pos_iff.2 hd0)
        have HBEF := Lib.hid (HBE.out hd0)
        refine wp_region_G (S1 := fun w' => w'.cell? ⟨V, 0, none⟩ = some (.int .i64 2) ∧ w'.cell? ⟨V, 1, none⟩ = some (.string ⟨#[]⟩) ∧ w'.cell? ⟨V, 2, none⟩ = some (.string ⟨#[]⟩) ∧ w'.cell? ⟨V, 3, none⟩ = some (.string (tx ds)) ∧ w'.cell? ⟨V, 4, none⟩ = some (.bool false) ∧ w'.cell? ⟨V, 5, none⟩ = some (.int .i64 0) ∧ w'.cell? ⟨V, 6, none⟩ = some (.int .i64 0) ∧ w'.cell? ⟨V, 7, none⟩ = some (.int .i64 0) ∧ w'.cell? ⟨V, 8, none⟩ = some (.slice none 0 0) ∧ w'.cell? ⟨Wb, 0, none⟩ = some (.int .i64 2) ∧ w'.cell? ⟨Wb, 1, none⟩ = some (.string ⟨#[]⟩) ∧ w'.cell? ⟨Wb, 2, none⟩ = some (.string ⟨#[]⟩) ∧ w'.cell? ⟨Wb, 3, none⟩ = some (.string (tx cs)) ∧ w'.cell? ⟨Wb, 4, none⟩ = some (.bool false) ∧ w'.cell? ⟨Wb, 5, none⟩ = some (.int .i64 0) ∧ w'.cell? ⟨Wb, 6, none⟩ = some (.int .i64 0) ∧ w'.cell? ⟨Wb, 7, none⟩ = some (.int .i64 0) ∧ w'.cell? ⟨Wb, 8, none⟩ = some (.slice none 0 0)) (S2 := fun _ => True) (d := 99) (by kernel_rfl) (HSS.out _ (Below.refl _ wc).drew) trivial (fun hT => ?_)
        refine wpAnyG_take1d (i := 0) (v := ?_) rfl rfl (by kernel_rfl) (by kernel_rfl) (by kernel_rfl) (by kernel_rfl) (fun _ _ _ h => h) (Or.inl ⟨by rfl, ?_⟩) (by assumption) (fun hT => ?_)
        rotate_left
        · intro w hSw
          (try dsimp only at hSw)
          go_simp
          (try with_reducible rfl)
        (try simp only [Act.put, List.setIfInBounds_toArray, List.set_cons_zero, List.set_cons_succ])
        refine wpAnyG_take1d (i := 1) (v := ?_) rfl rfl (by kernel_rfl) (by kernel_rfl) (by kernel_rfl) (by kernel_rfl) (fun _ _ _ h => h) (Or.inl ⟨by rfl, ?_⟩) (by assumption) (fun hT => ?_)
        rotate_left
        · intro w hSw
          (try dsimp only at hSw)
          go_simp
          (try with_reducible rfl)
        (try simp only [Act.put, List.setIfInBounds_toArray, List.set_cons_zero, List.set_cons_succ])
        refine wpAnyG_take1d (i := 2) (v := ?_) rfl rfl (by kernel_rfl) (by kernel_rfl) (by kernel_rfl) (by kernel_rfl) (fun _ _ _ h => h) (Or.inl ⟨by rfl, ?_⟩) (by assumption) (fun hT => ?_)
        rotate_left
        · intro w hSw
          (try dsimp only at hSw)
          go_simp
          (try with_reducible rfl)
        (try simp only [Act.put, List.setIfInBounds_toArray, List.set_cons_zero, List.set_cons_succ])
        refine wpAnyG_take1d (i := 3) (v := ?_) rfl rfl (by kernel_rfl) (by kernel_rfl) (by kernel_rfl) (by kernel_rfl) (fun _ _ _ h => h) (Or.inl ⟨by rfl, ?_⟩) (by assumption) (fun hT => ?_)
        rotate_left
        · intro w hSw
          (try dsimp only at hSw)
          go_simp
          (try with_reducible rfl)
        (try simp only [Act.put, List.setIfInBounds_toArray, List.set_cons_zero, List.set_cons_succ])
        refine wpAnyG_take1d (i := 4) (v := ?_) rfl rfl (by kernel_rfl) (by kernel_rfl) (by kernel_rfl) (by kernel_rfl) (fun _ _ _ h => h) (Or.inl ⟨by rfl, ?_⟩) (by assumption) (fun hT => ?_)
        rotate_left
        · intro w hSw
          (try dsimp only at hSw)
          go_simp
          (try with_reducible rfl)
        (try simp only [Act.put, List.setIfInBounds_toArray, List.set_cons_zero, List.set_cons_succ])
        refine wpAnyG_take1d (i := 5) (v := ?_) rfl rfl (by kernel_rfl) (by kernel_rfl) (by kernel_rfl) (by kernel_rfl) (fun _ _ _ h => h) (Or.inl ⟨by rfl, ?_⟩) (by assumption) (fun hT => ?_)
        rotate_left
        · intro w hSw
          (try dsimp only at hSw)
          go_simp
          (try with_reducible rfl)
        (try simp only [Act.put, List.setIfInBounds_toArray, List.set_cons_zero, List.set_cons_succ])
        refine wpAnyG_take1d (i := 6) (v := ?_) rfl rfl (by kernel_rfl) (by kernel_rfl) (by kernel_rfl) (by kernel_rfl) (fun _ _ _ h => h) (Or.inl ⟨by rfl, ?_⟩) (by assumption) (fun hT => ?_)
        rotate_left
        · intro w hSw
          (try dsimp only at hSw)
          go_simp
          (try with_reducible rfl)
        (try simp only [Act.put, List.setIfInBounds_toArray, List.set_cons_zero, List.set_cons_succ])
        refine wpAnyG_ready (rs := [7]) (by kernel_rfl) (by simp) ?_
        refine AllG.cons (i := 7) rfl (fun K hK => ?_) AllG.nil
        go_simp
        go_at_call 15
        (with_reducible refine (HHP.out _).mono ?_)
        rintro e p7 ⟨rfl, hw⟩
        have HSp7 := Lib.hid (show Below wc.heap.size wc p7 from by rw [hw]; first | exact Below.refl _ wc | exact (Below.refl _ wc).drew)
        clear hw
        refine hK.out _ _ ⟨HSS.out _ HSp7.out, .inr trivial⟩ (fun hT => ?_)
        clear hK K
        (try simp only [Act.put, List.setIfInBounds_toArray, List.set_cons_zero, List.set_cons_succ])
        refine wpAnyG_take1d (i := 8) (v := ?_) rfl rfl (by kernel_rfl) (by kernel_rfl) (by kernel_rfl) (by kernel_rfl) (fun _ _ _ h => h) (Or.inl ⟨by rfl, ?_⟩) (by assumption) (fun hT => ?_)
        rotate_left
        · intro w hSw
          (try dsimp only at hSw)
          go_simp
          (try with_reducible rfl)
        (try simp only [Act.put, List.setIfInBounds_toArray, List.set_cons_zero, List.set_cons_succ])
        refine wpAnyG_take1d (i := 9) (v := ?_) rfl rfl (by kernel_rfl) (by kernel_rfl) (by kernel_rfl) (by kernel_rfl) (fun _ _ _ h => h) (Or.inl ⟨by rfl, ?_⟩) (by assumption) (fun hT => ?_)
        rotate_left
        · intro w hSw
          (try dsimp only at hSw)
          go_simp
          (try with_reducible rfl)
        (try simp only [Act.put, List.setIfInBounds_toArray, List.set_cons_zero, List.set_cons_succ])
        refine wpAnyG_take1d (i := 10) (v := ?_) rfl rfl (by kernel_rfl) (by kernel_rfl) (by kernel_rfl) (by kernel_rfl) (fun _ _ _ h => h) (Or.inl ⟨by rfl, ?_⟩) (by assumption) (fun hT => ?_)
        rotate_left
        · intro w hSw
          (try dsimp only at hSw)
          go_simp
          (try with_reducible rfl)
        (try simp only [Act.put, List.setIfInBounds_toArray, List.set_cons_zero, List.set_cons_succ])
        refine wpAnyG_take1d (i := 11) (v := ?_) rfl rfl (by kernel_rfl) (by kernel_rfl) (by kernel_rfl) (by kernel_rfl) (fun _ _ _ h => h) (Or.inl ⟨by rfl, ?_⟩) (by assumption) (fun hT => ?_)
        rotate_left
        · intro w hSw
          (try dsimp only at hSw)
          go_simp
          (try with_reducible rfl)
        (try simp only [Act.put, List.setIfInBounds_toArray, List.set_cons_zero, List.set_cons_succ])
        refine wpAnyG_take1d (i := 12) (v := ?_) rfl rfl (by kernel_rfl) (by kernel_rfl) (by kernel_rfl) (by kernel_rfl) (fun _ _ _ h => h) (Or.inl ⟨by rfl, ?_⟩) (by assumption) (fun hT => ?_)
        rotate_left
        · intro w hSw
          (try dsimp only at hSw)
          go_simp
          (try with_reducible rfl)
        (try simp only [Act.put, List.setIfInBounds_toArray, List.set_cons_zero, List.set_cons_succ])
        refine wpAnyG_take1d (i := 14) (v := ?_) rfl rfl (by kernel_rfl) (by kernel_rfl) (by kernel_rfl) (by kernel_rfl) (fun _ _ _ h => h) (Or.inl ⟨by rfl, ?_⟩) (by assumption) (fun hT => ?_)
        rotate_left
        · intro w hSw
          (try dsimp only at hSw)
          go_simp
          (try with_reducible rfl)
        (try simp only [Act.put, List.setIfInBounds_toArray, List.set_cons_zero, List.set_cons_succ])
        refine wpAnyG_take1d (i := 15) (v := ?_) rfl rfl (by kernel_rfl) (by kernel_rfl) (by kernel_rfl) (by kernel_rfl) (fun _ _ _ h => h) (Or.inl ⟨by rfl, ?_⟩) (by assumption) (fun hT => ?_)
        rotate_left
        · intro w hSw
          (try dsimp only at hSw)
          go_simp
          (try with_reducible rfl)
        (try simp only [Act.put, List.setIfInBounds_toArray, List.set_cons_zero, List.set_cons_succ])
        refine wpAnyG_ready (rs := [13]) (by kernel_rfl) (by simp) ?_
        refine AllG.cons (i := 13) rfl (fun K hK => ?_) AllG.nil
        go_simp
        go_at_call 16
        (with_reducible refine (HIX.out _ (HCT.out _ HSp7.out)).mono ?_)
        rintro e p13 ⟨rfl, hw⟩
        have HSp13 := Lib.hid (show Below p7.heap.size p7 p13 from by rw [hw]; first | exact Below.refl _ p7 | exact (Below.refl _ p7).drew)
        clear hw
        refine hK.out _ _ ⟨HSS.out _ (below_tr HSp7.out HSp13.out), .inr trivial⟩ (fun hT => ?_)
        clear hK K
        (try simp only [Act.put, List.setIfInBounds_toArray, List.set_cons_zero, List.set_cons_succ])
        refine wpAnyG_take1d (i := 16) (v := ?_) rfl rfl (by kernel_rfl) (by kernel_rfl) (by kernel_rfl) (by kernel_rfl) (fun _ _ _ h => h) (Or.inl ⟨by rfl, ?_⟩) (by assumption) (fun hT => ?_)
        rotate_left
        · intro w hSw
          (try dsimp only at hSw)
          go_simp
          (try with_reducible rfl)
        (try simp only [Act.put, List.setIfInBounds_toArray, List.set_cons_zero, List.set_cons_succ])
        refine wpAnyG_take1d (i := 17) (v := ?_) rfl rfl (by kernel_rfl) (by kernel_rfl) (by kernel_rfl) (by kernel_rfl) (fun _ _ _ h => h) (Or.inl ⟨by rfl, ?_⟩) (by assumption) (fun hT => ?_)
        rotate_left
        · intro w hSw
          (try dsimp only at hSw)
          go_simp
          (try with_reducible rfl)
        (try simp only [Act.put, List.setIfInBounds_toArray, List.set_cons_zero, List.set_cons_succ])
        refine wpAnyG_take1d (i := 18) (v := ?_) rfl rfl (by kernel_rfl) (by kernel_rfl) (by kernel_rfl) (by kernel_rfl) (fun _ _ _ h => h) (Or.inl ⟨by rfl, ?_⟩) (by assumption) (fun hT => ?_)
        rotate_left
        · intro w hSw
          (try dsimp only at hSw)
          go_simp
          (try with_reducible rfl)
        (try simp only [Act.put, List.setIfInBounds_toArray, List.set_cons_zero, List.set_cons_succ])
        refine wpAnyG_take1d (i := 19) (v := ?_) rfl rfl (by kernel_rfl) (by kernel_rfl) (by kernel_rfl) (by kernel_rfl) (fun _ _ _ h => h) (Or.inl ⟨by rfl, ?_⟩) (by assumption) (fun hT => ?_)
        rotate_left
        · intro w hSw
          (try dsimp only at hSw)
          go_simp
          (try with_reducible rfl)
        (try simp only [Act.put, List.setIfInBounds_toArray, List.set_cons_zero, List.set_cons_succ])
        refine wpAnyG_take1d (i := 20) (v := ?_) rfl rfl (by kernel_rfl) (by kernel_rfl) (by kernel_rfl) (by kernel_rfl) (fun _ _ _ h => h) (Or.inl ⟨by rfl, ?_⟩) (by assumption) (fun hT => ?_)
        rotate_left
        · intro w hSw
          (try dsimp only at hSw)
          go_simp
          (try with_reducible rfl)
        (try simp only [Act.put, List.setIfInBounds_toArray, List.set_cons_zero, List.set_cons_succ])
        refine wpAnyG_take1d (i := 21) (v := .bool false) rfl rfl (by kernel_rfl) (by kernel_rfl) (by kernel_rfl) (by kernel_rfl) (fun _ _ _ h => h) (Or.inl ⟨by rfl, ?_⟩) (by assumption) (fun hT => ?_)
        · intro w hSw
          (try dsimp only at hSw)
          go_simp
          (try first | (with_reducible rfl) | rfl | (simp [hne2]) | kernel_rfl)
        (try simp only [Act.put, List.setIfInBounds_toArray, List.set_cons_zero, List.set_cons_succ])
        refine wpAnyG_take1d (i := 22) (v := ?_) rfl rfl (by kernel_rfl) (by kernel_rfl) (by kernel_rfl) (by kernel_rfl) (fun _ _ _ h => h) (Or.inl ⟨by rfl, ?_⟩) (by assumption) (fun hT => ?_)
        rotate_left
        · intro w hSw
          (try dsimp only at hSw)
          go_simp
          (try with_reducible rfl)
        (try simp only [Act.put, List.setIfInBounds_toArray, List.set_cons_zero, List.set_cons_succ])
        refine wpAnyG_take1d (i := 23) (v := ?_) rfl rfl (by kernel_rfl) (by kernel_rfl) (by kernel_rfl) (by kernel_rfl) (fun _ _ _ h => h) (Or.inl ⟨by rfl, ?_⟩) (by assumption) (fun hT => ?_)
        rotate_left
        · intro w hSw
          (try dsimp only at hSw)
          go_simp
          (try with_reducible rfl)
        (try simp only [Act.put, List.setIfInBounds_toArray, List.set_cons_zero, List.set_cons_succ])
        refine wpAnyG_take1d (i := 24) (v := ?_) rfl rfl (by kernel_rfl) (by kernel_rfl) (by kernel_rfl) (by kernel_rfl) (fun _ _ _ h => h) (Or.inl ⟨by rfl, ?_⟩) (by assumption) (fun hT => ?_)
        rotate_left
        · intro w hSw
          (try dsimp only at hSw)
          go_simp
          (try with_reducible rfl)
        (try simp only [Act.put, List.setIfInBounds_toArray, List.set_cons_zero, List.set_cons_succ])
        refine wpAnyG_take1d (i := 27) (v := ?_) rfl rfl (by kernel_rfl) (by kernel_rfl) (by kernel_rfl) (by kernel_rfl) (fun _ _ _ h => h) (Or.inl ⟨by rfl, ?_⟩) (by assumption) (fun hT => ?_)
        rotate_left
        · intro w hSw
          (try dsimp only at hSw)
          go_simp
          (try with_reducible rfl)
        (try simp only [Act.put, List.setIfInBounds_toArray, List.set_cons_zero, List.set_cons_succ])
        refine wpAnyG_ready (rs := [25]) (by kernel_rfl) (by simp) ?_
        refine AllG.cons (i := 25) rfl (fun K hK => ?_) AllG.nil
        go_simp
        refine gen_w ?_
        intro b25 hwa
        have HSb25 := Lib.hid (show Below p13.heap.size p13 b25 from by rw [hwa]; first | exact below_al p13 _ | exact (below_al p13 _).drew)
        have HBb25 := Lib.hid (show Reads 9 csV b25 (.slice (some ⟨p13.heap.size, 0, none⟩) 2 2) [tV (tx cs), tV (tx ds)] from by rw [hwa]; exact reads_newN p13 _ [tV (tx cs), tV (tx ds)] rfl)
        clear hwa
        refine hK.out _ _ ⟨HSS.out _ (below_tr (below_tr HSp7.out HSp13.out) HSb25.out), .inr trivial⟩ (fun hT => ?_)
        clear hK K
        (try simp only [Act.put, List.setIfInBounds_toArray, List.set_cons_zero, List.set_cons_succ])
        refine wpAnyG_ready (rs := [26]) (by kernel_rfl) (by simp) ?_
        refine AllG.cons (i := 26) rfl (fun K hK => ?_) AllG.nil
        go_simp
        go_at_call 8
        (with_reducible refine (HBEF.out _ _ _ (HCT.out _ (below_tr (below_tr HSp7.out HSp13.out) HSb25.out)) (HBb25.out.below (Below.refl _ b25))).mono ?_)
        rintro e b26 ⟨rfl, hb⟩
        have HSb26 := Lib.hid (show Below b25.heap.size b25 b26 from by first | exact hb | exact (Below.refl _ b25).drew.trans hb)
        clear hb
        refine hK.out _ _ ⟨HSS.out _ (below_tr (below_tr (below_tr HSp7.out HSp13.out) HSb25.out) HSb26.out), .inr trivial⟩ (fun hT => ?_)
        clear hK K
        (try simp only [Act.put, List.setIfInBounds_toArray, List.set_cons_zero, List.set_cons_succ])
        refine wpAnyG_ready (rs := [28]) (by kernel_rfl) (by simp) ?_
        refine AllG.cons (i := 28) rfl (fun K hK => ?_) AllG.nil
        go_simp
        go_at_call 7
        (with_reducible refine (HTB.out _ (HCT.out _ (below_tr (below_tr (below_tr HSp7.out HSp13.out) HSb25.out) HSb26.out))).mono ?_)
        rintro e b28 ⟨rfl, hb⟩
        have HSb28 := Lib.hid (show Below b26.heap.size b26 b28 from by first | exact hb | exact (Below.refl _ b26).drew.trans hb)
        clear hb
        refine hK.out _ _ ⟨HSS.out _ (below_tr (below_tr (below_tr (below_tr HSp7.out HSp13.out) HSb25.out) HSb26.out) HSb28.out), .inr trivial⟩ (fun hT => ?_)
        clear hK K
        (try simp only [Act.put, List.setIfInBounds_toArray, List.set_cons_zero, List.set_cons_succ])
        refine wpAnyG_ready (rs := [29]) (by kernel_rfl) (by simp) ?_
        refine AllG.cons (i := 29) rfl (fun K hK => ?_) AllG.nil
        go_simp
        go_at_call 12
        (with_reducible refine (same_t (tx (cs.take n)) _).mono ?_)
        rintro e b29 ⟨rfl, hb⟩
        have HSb29 := Lib.hid (show Below b28.heap.size b28 b29 from by first | exact hb | exact (Below.refl _ b28).drew.trans hb)
        clear hb
        refine hK.out _ _ ⟨HSS.out _ (below_tr (below_tr (below_tr (below_tr (below_tr HSp7.out HSp13.out) HSb25.out) HSb26.out) HSb28.out) HSb29.out), .inr trivial⟩ (fun hT => ?_)
        clear hK K
        (try simp only [Act.put, List.setIfInBounds_toArray, List.set_cons_zero, List.set_cons_succ])
        refine wpAnyG_take1d (i := 30) (v := ?_) rfl rfl (by kernel_rfl) (by kernel_rfl) (by kernel_rfl) (by kernel_rfl) (fun _ _ _ h => h) (Or.inl ⟨by rfl, ?_⟩) (by assumption) (fun hT => ?_)
        rotate_left
        · intro w hSw
          (try dsimp only at hSw)
          go_simp
          (try with_reducible rfl)
        (try simp only [Act.put, List.setIfInBounds_toArray, List.set_cons_zero, List.set_cons_succ])
        refine wpAnyG_take1d (i := 31) (v := ?_) rfl rfl (by kernel_rfl) (by kernel_rfl) (by kernel_rfl) (by kernel_rfl) (fun _ _ _ h => h) (Or.inl ⟨by rfl, ?_⟩) (by assumption) (fun hT => ?_)
        rotate_left
        · intro w hSw
          (try dsimp only at hSw)
          go_simp
          (try with_reducible rfl)
        (try simp only [Act.put, List.setIfInBounds_toArray, List.set_cons_zero, List.set_cons_succ])
        refine wpAnyG_take1d (i := 32) (v := ?_) rfl rfl (by kernel_rfl) (by kernel_rfl) (by kernel_rfl) (by kernel_rfl) (fun _ _ _ h => h) (Or.inl ⟨by rfl, ?_⟩) (by assumption) (fun hT => ?_)
        rotate_left
        · intro w hSw
          (try dsimp only at hSw)
          go_simp
          (try with_reducible rfl)
        (try simp only [Act.put, List.setIfInBounds_toArray, List.set_cons_zero, List.set_cons_succ])
        refine wpAnyG_done (by kernel_rfl) ?_ _
        clear hT
        go_wp2_with fail
        go_ret
        exact ⟨rfl, HBW.out.trans ((below_tr (below_tr (below_tr (below_tr (below_tr HSp7.out HSp13.out) HSb25.out) HSb26.out) HSb28.out) HSb29.out).mono HBW.out.size)⟩
  · have hno : ∀ n, n ≤ cs.length → atC cs ds n = false := fun n hn => by
      cases h : atC cs ds n with
      | false => rfl
      | true => exact absurd ⟨n, hn, h⟩ hex
    have HFI := Lib.hid (show Calls Tryz.prog 8 #[.string ⟨#[70, 73, 78, 68]⟩, .slice (some ⟨wc.heap.size, 0, none⟩) 2 2] (wc.alloc (.cells #[.int .i64 2, .string ⟨#[]⟩, .string ⟨#[]⟩, .string (tx ds), .bool false, .int .i64 0, .int .i64 0, .int .i64 0, .slice none 0 0, .int .i64 2, .string ⟨#[]⟩, .string ⟨#[]⟩, .string (tx cs), .bool false, .int .i64 0, .int .i64 0, .int .i64 0, .slice none 0 0] 26)) fun e w' => e = .returned (.agg #[.int .i64 4, .string ⟨#[]⟩, .string ⟨#[]⟩, .string ⟨#[]⟩, .bool false, .int .i64 2, .int .i64 0, .int .i64 0, .slice none 0 0]) ∧ Below (wc.alloc (.cells #[.int .i64 2, .string ⟨#[]⟩, .string ⟨#[]⟩, .string (tx ds), .bool false, .int .i64 0, .int .i64 0, .int .i64 0, .slice none 0 0, .int .i64 2, .string ⟨#[]⟩, .string ⟨#[]⟩, .string (tx cs), .bool false, .int .i64 0, .int .i64 0, .int .i64 0, .slice none 0 0] 26)).heap.size (wc.alloc (.cells #[.int .i64 2, .string ⟨#[]⟩, .string ⟨#[]⟩, .string (tx ds), .bool false, .int .i64 0, .int .i64 0, .int .i64 0, .slice none 0 0, .int .i64 2, .string ⟨#[]⟩, .string ⟨#[]⟩, .string (tx cs), .bool false, .int .i64 0, .int .i64 0, .int .i64 0, .slice none 0 0] 26)) w' from c_Fno _ (some ⟨wc.heap.size, 0, none⟩) 2 cs ds HCS.out.1.1 HCS.out.2.1 HCS.out.1.2 HCS.out.2.2 hno (HE.out.below hbw) (reads_newN wc _ [tV (tx ds), tV (tx cs)] rfl))
    have HCN := Lib.hid (show ∀ W, VEnv W → Calls Tryz.prog 14 #[.string (tx cs), .string (tx ds)] W fun e w' => e = .returned (.bool false) ∧ w' = W from fun W hW => by
      obtain ⟨mm, hmm⟩ := hW.mx
      have h := Tryz.strings_Contains (tx cs) (tx ds) mm W (by omega) hmm
      unfold Lib.contains at h
      rw [tx_data, tx_data, index_not HCS.out.1.1 HCS.out.2.1 hno] at h
      exact h)
    clear hno hex hbw
    obtain ⟨e0, e1, e2, e3, e4, e5, e6, e7, e8⟩ := HPV.out.nine
    obtain ⟨g0, g1, g2, g3, g4, g5, g6, g7, g8⟩ := HPW.out.nine
    go_upto_region 5 with (go_at_call 8; (with_reducible refine HFI.out.mono ?_); rintro e w3 ⟨rfl, hb⟩; have HB3 := Lib.hid hb; clear hb)
    clear e0 e1 e2 e3 e4 e5 e6 e7 e8 g0 g1 g2 g3 g4 g5 g6 g7 g8
    have hb1 := hwb.trans (HB3.out.mono hwb.size)
    have hba := below_al w3 (.cells #[.int .i64 4, .string ⟨#[]⟩, .string ⟨#[]⟩, .string ⟨#[]⟩, .bool false, .int .i64 2, .int .i64 0, .int .i64 0, .slice none 0 0] 26)
    have hb2 := hb1.trans (hba.mono hb1.size)
    have HPU := Lib.hid (Blk.new w3 26 #[.int .i64 4, .string ⟨#[]⟩, .string ⟨#[]⟩, .string ⟨#[]⟩, .bool false, .int .i64 2, .int .i64 0, .int .i64 0, .slice none 0 0])
    have HPVn := Lib.hid (HPV.out.later hb2)
    have HPWn := Lib.hid (HPW.out.later hb2)
    have HB := Lib.hid (HBc.out.trans (hb2.mono HBc.out.size))
    clear hb1 hba hb2 HFI HPV HPW HBc HB3 hwb
    revert HPU HPVn HPWn HB
    generalize w3.alloc (.cells #[.int .i64 4, .string ⟨#[]⟩, .string ⟨#[]⟩, .string ⟨#[]⟩, .bool false, .int .i64 2, .int .i64 0, .int .i64 0, .slice none 0 0] 26) = w4
    generalize w3.heap.size = U
    intro HPU HPVn HPWn HB
    have HCN4 := Lib.hid (HCN.out w4 (HE.out.below HB.out))
    obtain ⟨h0, h1, h2, h3, h4, h5, h6, h7, h8⟩ := HPU.out.nine
    obtain ⟨e0, e1, e2, e3, e4, e5, e6, e7, e8⟩ := HPVn.out.nine
    obtain ⟨g0, g1, g2, g3, g4, g5, g6, g7, g8⟩ := HPWn.out.nine
    go_wp2_with (go_at_call 14; (with_reducible refine HCN4.out.mono ?_); rintro e w5 ⟨rfl, rfl⟩)
    go_ret
    exact ⟨rfl, HB.out⟩
end Go.Proofs.YtcnlonaighlmbaaGreatDoor
