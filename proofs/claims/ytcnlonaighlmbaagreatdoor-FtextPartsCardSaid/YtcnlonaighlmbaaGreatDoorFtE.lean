/- FtextParts: the law's walk. -/
import Derived.Test.YtcnlonaighlmbaaGreatDoorFtH
set_option linter.unusedSimpArgs false
set_option linter.unusedVariables false
namespace Go.Proofs.YtcnlonaighlmbaaGreatDoor
open Go.RowKit

theorem same_t (t : ByteArray) (W : World) : Calls Tryz.prog 12 #[(.agg #[.int .i64 2, .string ⟨#[]⟩, .string ⟨#[]⟩, .string t, .bool false, .int .i64 0, .int .i64 0, .int .i64 0, .slice none 0 0]), (.agg #[.int .i64 2, .string ⟨#[]⟩, .string ⟨#[]⟩, .string t, .bool false, .int .i64 0, .int .i64 0, .int .i64 0, .slice none 0 0])] W fun e w' => e = .returned (.bool true) ∧ Below W.heap.size W w' := same_v (tV t) rfl W
theorem same_n (n : Nat) (W : World) : Calls Tryz.prog 12 #[(.agg #[.int .i64 1, .string (nt n), .string ⟨#[49]⟩, .string ⟨#[]⟩, .bool false, .int .i64 0, .int .i64 0, .int .i64 0, .slice none 0 0]), (.agg #[.int .i64 1, .string (nt n), .string ⟨#[49]⟩, .string ⟨#[]⟩, .bool false, .int .i64 0, .int .i64 0, .int .i64 0, .slice none 0 0])] W fun e w' => e = .returned (.bool true) ∧ Below W.heap.size W w' := same_v (nV n) rfl W
theorem whole_x (x : Int) (j : Nat) (W : World) (he : VEnv W) (hx : x = (j : Int)) (hj : j ≤ 100000) : Calls Tryz.prog 11 #[.int .i64 x] W fun e w' => e = .returned (.agg #[.int .i64 1, .string (nt j), .string ⟨#[49]⟩, .string ⟨#[]⟩, .bool false, .int .i64 0, .int .i64 0, .int .i64 0, .slice none 0 0]) ∧ Below W.heap.size W w' := by
  subst hx
  exact whole_h j W he hj
theorem mod_x (n x : Int) (M r : Nat) (W : World) (hx : x = (M : Int)) (hM : 0 < M) (hM2 : M ≤ 100000) (hn : -9223372036854775808 ≤ n ∧ n ≤ 9223372036854775807) (hr : n % (M : Int) = (r : Int)) : Calls Tryz.prog 10 #[.int .i64 n, .int .i64 x] W fun e w' => e = .returned (.int .i64 (r : Int)) ∧ W = w' := by
  subst hx
  rw [← hr]
  exact mod_any n M W (by omega) (by omega) hn
theorem nat_mod (n : Int) (M : Nat) (h : 0 < M) : ∃ r : Nat, n % (M : Int) = (r : Int) ∧ r < M := by
  have h1 := Int.emod_nonneg n (show (M : Int) ≠ 0 by omega)
  have h2 := Int.emod_lt_of_pos n (show (0 : Int) < M by omega)
  exact ⟨(n % (M : Int)).toNat, by omega, by omega⟩

set_option maxRecDepth 100000 in
set_option maxHeartbeats 40000000 in
theorem parts_w (s : ByteArray) (z1 z2 : Int) (w : World) (he : VEnv w) (hs : s.size ≤ 9223372036854775807) (b1 : -9223372036854775808 ≤ z1 ∧ z1 ≤ 9223372036854775807) (b2 : -9223372036854775808 ≤ z2 ∧ z2 ≤ 9223372036854775807) :
    Calls Tryz.prog 3 #[.string s, .int .i64 z1, .int .i64 z2] w fun e w' => e = .returned (.bool true) ∧ Below w.heap.size w w' := by
  obtain ⟨vt, hvt, hv⟩ : ∃ vt, txtE vt = 0 ∧ ((txtE s = 0 ∧ vt = s) ∨ (¬ txtE s = 0 ∧ vt = ⟨#[112, 97, 114, 116, 115]⟩)) := by
    by_cases h : txtE s = 0
    · exact ⟨s, h, .inl ⟨h, rfl⟩⟩
    · exact ⟨⟨#[112, 97, 114, 116, 115]⟩, by decide +kernel, .inr ⟨h, rfl⟩⟩
  obtain ⟨cs, hcs, rfl, hsz⟩ := chs_txtE hvt
  have hN : cs.length ≤ 32767 := tx_le hcs hsz
  obtain ⟨m, hm, hm2⟩ := nat_mod z1 (cs.length + 1) (by omega)
  obtain ⟨k, hk, hk2⟩ := nat_mod z2 (cs.length - m + 1) (by omega)
  have hmk : m + k ≤ cs.length := by omega
  have HT1 := Lib.hid (show ∀ W, Below w.heap.size w W → Calls Tryz.prog 7 #[.string s] W fun e w' => ∃ (k0 : Int) (t0 : ByteArray) (c0 : Int), e = .returned (.agg #[.int .i64 k0, .string ⟨#[]⟩, .string ⟨#[]⟩, .string t0, .bool false, .int .i64 c0, .int .i64 0, .int .i64 0, .slice none 0 0]) ∧ ((k0 = 2 ∧ t0 = tx cs ∧ c0 = 0) ∨ (k0 = 4 ∧ tx cs = ⟨#[112, 97, 114, 116, 115]⟩)) ∧ Below W.heap.size W w' from fun W hW => by
    rcases hv with ⟨h1, h2⟩ | ⟨h1, h2⟩
    · exact (text_t s W (he.below hW) h1 hs).mono fun e w' h => ⟨2, s, 0, h.1, .inl ⟨rfl, h2.symm, rfl⟩, h.2⟩
    · exact (text_f s W (he.below hW) h1 hs).mono fun e w' h => ⟨4, ⟨#[]⟩, 2, h.1, .inr ⟨rfl, h2⟩, h.2⟩)
  have HT3 := Lib.hid (show ∀ W, Below w.heap.size w W → tx cs = ⟨#[112, 97, 114, 116, 115]⟩ → Calls Tryz.prog 7 #[.string ⟨#[112, 97, 114, 116, 115]⟩] W fun e w' => e = .returned (.agg #[.int .i64 2, .string ⟨#[]⟩, .string ⟨#[]⟩, .string (tx cs), .bool false, .int .i64 0, .int .i64 0, .int .i64 0, .slice none 0 0]) ∧ Below W.heap.size W w' from fun W hW h => by
    rw [h]
    exact text_t ⟨#[112, 97, 114, 116, 115]⟩ W (he.below hW) (by decide +kernel) (by decide))
  have HLEN := Lib.hid (show ∀ W A c, VEnv W → Reads 9 csV W (.slice A 1 c) [tV (tx cs)] → Calls Tryz.prog 8 #[.string ⟨#[76, 69, 78]⟩, .slice A 1 c] W fun e w' => e = .returned (.agg #[.int .i64 1, .string (nt cs.length), .string ⟨#[49]⟩, .string ⟨#[]⟩, .bool false, .int .i64 0, .int .i64 0, .int .i64 0, .slice none 0 0]) ∧ Below W.heap.size W w' from fun W A c hW hA => c_Len W A c cs hcs hsz hW hA)
  have HXI := Lib.hid fun W => int_q (nt cs.length) ⟨#[49]⟩ cs.length 40 W (by omega) (pv_qk cs.length (by omega))
  have HE := Lib.hid he
  have HCS := Lib.hid (show ChsOk cs ∧ (tx cs).size ≤ 32767 from ⟨hcs, hsz⟩)
  have HLE := Lib.hid hN
  have HMK := Lib.hid hmk
  have HM1 := Lib.hid hm
  have HM2 := Lib.hid hk
  obtain ⟨N, hNN⟩ : ∃ N, N = cs.length := ⟨_, rfl⟩
  have HNN := Lib.hid hNN
  rw [← hNN] at HLEN HXI hN hmk hm2 hk2 hm hk
  have HMa := Lib.hid hm
  have HMb := Lib.hid hk
  clear hv hvt he hs hcs hsz hNN hm hk HM1 HM2 HLE
  go_enter Tryz.func3, Tryz.ntmps3
  go_upto_region 1 with fail
  go_cut [7] (fun u7 wz => ∃ (V : Nat) (k0 : Int) (t0 : ByteArray) (c0 : Int), u7 = .pointer (some ⟨V, 0, none⟩) ∧ Hid ((k0 = 2 ∧ t0 = tx cs ∧ c0 = 0) ∨ (k0 = 4 ∧ tx cs = ⟨#[112, 97, 114, 116, 115]⟩)) ∧ Hid (Blk wz V 26 #[.int .i64 k0, .string ⟨#[]⟩, .string ⟨#[]⟩, .string t0, .bool false, .int .i64 c0, .int .i64 0, .int .i64 0, .slice none 0 0]) ∧ Hid (Below w.heap.size w wz) ∧ Hid (w.heap.size ≤ V))
  case first =>
    go_wp2_with (go_at_call 7; (with_reducible refine (HT1.out _ (Below.refl _ _)).mono ?_); rintro e w1 ⟨k0, t0, c0, rfl, hk0, hb⟩; have HK0 := Lib.hid hk0; have HB1 := Lib.hid hb; clear hk0 hb)
    go_meet
    have hba := below_al w1 (.cells #[.int .i64 k0, .string ⟨#[]⟩, .string ⟨#[]⟩, .string t0, .bool false, .int .i64 c0, .int .i64 0, .int .i64 0, .slice none 0 0] 26)
    exact ⟨w1.heap.size, k0, t0, c0, rfl, HK0, Lib.hid (Blk.new w1 26 #[.int .i64 k0, .string ⟨#[]⟩, .string ⟨#[]⟩, .string t0, .bool false, .int .i64 c0, .int .i64 0, .int .i64 0, .slice none 0 0]), Lib.hid (HB1.out.trans (hba.mono HB1.out.size)), Lib.hid HB1.out.size⟩
  case rest =>
  obtain ⟨V, k0, t0, c0, rfl, HK0, HPV, HB2, HVL⟩ := hcut
  clear HT1
  go_step
  go_step
  go_cut [] (fun wz => Hid (Blk wz V 26 #[.int .i64 2, .string ⟨#[]⟩, .string ⟨#[]⟩, .string (tx cs), .bool false, .int .i64 0, .int .i64 0, .int .i64 0, .slice none 0 0]) ∧ Hid (Below w.heap.size w wz))
  case first =>
    obtain ⟨e0, e1, e2, e3, e4, e5, e6, e7, e8⟩ := HPV.out.nine
    obtain ⟨f0, f1, f2, f3, f4, f5, f6, f7, f8⟩ := HPV.out.ninef
    rcases HK0.out with ⟨rfl, rfl, rfl⟩ | ⟨rfl, hp⟩
    · go_wp2_with fail
      go_meet
      exact ⟨HPV, HB2⟩
    · have HP := Lib.hid hp
      clear hp
      go_wp2_with (go_at_call 7; (with_reducible refine (HT3.out _ HB2.out HP.out).mono ?_); rintro e w3 ⟨rfl, hb⟩; have HPV3 := Lib.hid (HPV.out.later hb); have HB3 := Lib.hid (HB2.out.trans (hb.mono HB2.out.size)); clear hb HPV HB2; clear e0 e1 e2 e3 e4 e5 e6 e7 e8 f0 f1 f2 f3 f4 f5 f6 f7 f8; obtain ⟨e0, e1, e2, e3, e4, e5, e6, e7, e8⟩ := HPV3.out.nine; obtain ⟨f0, f1, f2, f3, f4, f5, f6, f7, f8⟩ := HPV3.out.ninef)
      go_meet
      exact ⟨Lib.hid (HPV3.out.nine_set (.int .i64 2) (.string ⟨#[]⟩) (.string ⟨#[]⟩) (.string (tx cs)) (.bool false) (.int .i64 0) (.int .i64 0) (.int .i64 0) (.slice none 0 0)).1, Lib.hid (below_nine HB3.out HVL.out (.int .i64 2) (.string ⟨#[]⟩) (.string ⟨#[]⟩) (.string (tx cs)) (.bool false) (.int .i64 0) (.int .i64 0) (.int .i64 0) (.slice none 0 0))⟩
  case rest =>
    obtain ⟨HPVc, HBc⟩ := hcut
    clear HPV HB2 HT3 HK0 HVL
    have HLN := Lib.hid (show Calls Tryz.prog 8 #[.string ⟨#[76, 69, 78]⟩, .slice (some ⟨wc.heap.size, 0, none⟩) 1 1] (wc.alloc (.cells #[.int .i64 2, .string ⟨#[]⟩, .string ⟨#[]⟩, .string (tx cs), .bool false, .int .i64 0, .int .i64 0, .int .i64 0, .slice none 0 0] 26)) fun e w' => e = .returned (.agg #[.int .i64 1, .string (nt N), .string ⟨#[49]⟩, .string ⟨#[]⟩, .bool false, .int .i64 0, .int .i64 0, .int .i64 0, .slice none 0 0]) ∧ Below (wc.alloc (.cells #[.int .i64 2, .string ⟨#[]⟩, .string ⟨#[]⟩, .string (tx cs), .bool false, .int .i64 0, .int .i64 0, .int .i64 0, .slice none 0 0] 26)).heap.size (wc.alloc (.cells #[.int .i64 2, .string ⟨#[]⟩, .string ⟨#[]⟩, .string (tx cs), .bool false, .int .i64 0, .int .i64 0, .int .i64 0, .slice none 0 0] 26)) w' from by
      have hba := below_al wc (.cells #[.int .i64 2, .string ⟨#[]⟩, .string ⟨#[]⟩, .string (tx cs), .bool false, .int .i64 0, .int .i64 0, .int .i64 0, .slice none 0 0] 26)
      exact HLEN.out _ _ _ (HE.out.below (HBc.out.trans (hba.mono HBc.out.size))) (reads_newN wc _ [tV (tx cs)] rfl))
    obtain ⟨e0, e1, e2, e3, e4, e5, e6, e7, e8⟩ := HPVc.out.nine
    go_upto_region 5 with (go_at_call 8; (with_reducible refine HLN.out.mono ?_); rintro e w3 ⟨rfl, hb⟩; have HB3 := Lib.hid hb; clear hb)
    clear e0 e1 e2 e3 e4 e5 e6 e7 e8
    have hb1 := (below_al wc (.cells #[.int .i64 2, .string ⟨#[]⟩, .string ⟨#[]⟩, .string (tx cs), .bool false, .int .i64 0, .int .i64 0, .int .i64 0, .slice none 0 0] 26)).trans (HB3.out.mono (below_al wc (.cells #[.int .i64 2, .string ⟨#[]⟩, .string ⟨#[]⟩, .string (tx cs), .bool false, .int .i64 0, .int .i64 0, .int .i64 0, .slice none 0 0] 26)).size)
    have hba := below_al w3 (.cells #[.int .i64 1, .string (nt N), .string ⟨#[49]⟩, .string ⟨#[]⟩, .bool false, .int .i64 0, .int .i64 0, .int .i64 0, .slice none 0 0] 26)
    have hb2 := hb1.trans (hba.mono hb1.size)
    have HPU := Lib.hid (Blk.new w3 26 #[.int .i64 1, .string (nt N), .string ⟨#[49]⟩, .string ⟨#[]⟩, .bool false, .int .i64 0, .int .i64 0, .int .i64 0, .slice none 0 0])
    have HPV := Lib.hid (HPVc.out.later hb2)
    have HB := Lib.hid (HBc.out.trans (hb2.mono HBc.out.size))
    clear hb1 hba hb2 HLN HPVc HBc HB3 HLEN
    revert HPU HPV HB
    generalize w3.alloc (.cells #[.int .i64 1, .string (nt N), .string ⟨#[49]⟩, .string ⟨#[]⟩, .bool false, .int .i64 0, .int .i64 0, .int .i64 0, .slice none 0 0] 26) = w4
    generalize w3.heap.size = U
    intro HPU HPV HB
    obtain ⟨e0, e1, e2, e3, e4, e5, e6, e7, e8⟩ := HPU.out.nine
    go_upto_region 10 with (first
      | (go_at_call 9; (with_reducible refine (HXI.out _).mono ?_); rintro e w5 ⟨rfl, hb⟩; have HPV5 := Lib.hid (HPV.out.later hb); have HB5 := Lib.hid (HB.out.trans (hb.mono HB.out.size)); clear hb HPV HB)
      | (go_at_call 10; first
        | ((with_reducible refine (mod_x z1 _ (N + 1) m _ ?_ (by omega) (by omega) b1 HMa.out).mono ?_); (first | rfl | omega | (rw [IntWalk.i64_in _ (by omega)]; omega)); rintro e w6 ⟨rfl, rfl⟩)
        | ((with_reducible refine (mod_x z2 _ (N - m + 1) k _ ?_ (by omega) (by omega) b2 HMb.out).mono ?_); (first | rfl | omega | (rw [IntWalk.i64_in _ (by omega)]; omega)); rintro e w7 ⟨rfl, rfl⟩)))
    have HCT := Lib.hid (show ∀ w', Below w5.heap.size w5 w' → VEnv w' from fun w' h => HE.out.below (HB5.out.trans (h.mono HB5.out.size)))
    have HSS := Lib.hid (show ∀ w', Below w5.heap.size w5 w' → w'.cell? ⟨V, 0, none⟩ = some (.int .i64 2) ∧ w'.cell? ⟨V, 1, none⟩ = some (.string ⟨#[]⟩) ∧ w'.cell? ⟨V, 2, none⟩ = some (.string ⟨#[]⟩) ∧ w'.cell? ⟨V, 3, none⟩ = some (.string (tx cs)) ∧ w'.cell? ⟨V, 4, none⟩ = some (.bool false) ∧ w'.cell? ⟨V, 5, none⟩ = some (.int .i64 0) ∧ w'.cell? ⟨V, 6, none⟩ = some (.int .i64 0) ∧ w'.cell? ⟨V, 7, none⟩ = some (.int .i64 0) ∧ w'.cell? ⟨V, 8, none⟩ = some (.slice none 0 0) from fun w' h => ⟨(HPV5.out.later h).cell 0, (HPV5.out.later h).cell 1, (HPV5.out.later h).cell 2, (HPV5.out.later h).cell 3, (HPV5.out.later h).cell 4, (HPV5.out.later h).cell 5, (HPV5.out.later h).cell 6, (HPV5.out.later h).cell 7, (HPV5.out.later h).cell 8⟩)
    have HLEF := Lib.hid (show ∀ W A c, VEnv W → Reads 9 csV W (.slice A 2 c) [tV (tx cs), nV m] → Calls Tryz.prog 8 #[.string ⟨#[76, 69, 70, 84]⟩, .slice A 2 c] W fun e w' => e = .returned (.agg #[.int .i64 2, .string ⟨#[]⟩, .string ⟨#[]⟩, .string (tx (cs.take m)), .bool false, .int .i64 0, .int .i64 0, .int .i64 0, .slice none 0 0]) ∧ Below W.heap.size W w' from fun W A c hW hA => c_Lef W A c cs HCS.out.1 HCS.out.2 m (by omega) hW hA)
    have HMID := Lib.hid (show ∀ W A c, VEnv W → Reads 9 csV W (.slice A 3 c) [tV (tx cs), nV (m + 1), nV k] → Calls Tryz.prog 8 #[.string ⟨#[77, 73, 68]⟩, .slice A 3 c] W fun e w' => e = .returned (.agg #[.int .i64 2, .string ⟨#[]⟩, .string ⟨#[]⟩, .string (tx ((cs.drop m).take k)), .bool false, .int .i64 0, .int .i64 0, .int .i64 0, .slice none 0 0]) ∧ Below W.heap.size W w' from fun W A c hW hA => c_Mid W A c cs HCS.out.1 HCS.out.2 m k HMK.out hW hA)
    have HRIG := Lib.hid (show ∀ W A c, VEnv W → Reads 9 csV W (.slice A 2 c) [tV (tx cs), nV (N - m - k)] → Calls Tryz.prog 8 #[.string ⟨#[82, 73, 71, 72, 84]⟩, .slice A 2 c] W fun e w' => e = .returned (.agg #[.int .i64 2, .string ⟨#[]⟩, .string ⟨#[]⟩, .string (tx (cs.drop (m + k))), .bool false, .int .i64 0, .int .i64 0, .int .i64 0, .slice none 0 0]) ∧ Below W.heap.size W w' from fun W A c hW hA => by
      have h := c_Rig W A c cs HCS.out.1 HCS.out.2 (N - m - k) (by rw [← HNN.out]; omega) hW hA
      rw [show cs.length - (N - m - k) = m + k from by rw [← HNN.out]; omega] at h
      exact h)
    have hmk : m + k ≤ N := by rw [HNN.out]; exact HMK.out
    have i1 : IntKind.i64.wrap ((N : Int) - (m : Int)) = ((N - m : Nat) : Int) := by rw [IntWalk.i64_in _ (by omega)]; omega
    have i2 : IntKind.i64.wrap (((N - m : Nat) : Int) - (k : Int)) = ((N - m - k : Nat) : Int) := by rw [IntWalk.i64_in _ (by omega)]; omega
    go_cut [12, 13, 14] (fun u12 u13 u14 wz => ∃ X Y Z : Nat, u12 = .pointer (some ⟨X, 0, none⟩) ∧ u13 = .pointer (some ⟨Y, 0, none⟩) ∧ u14 = .pointer (some ⟨Z, 0, none⟩) ∧ Hid (Blk wz X 26 #[.int .i64 2, .string ⟨#[]⟩, .string ⟨#[]⟩, .string (tx (cs.take m)), .bool false, .int .i64 0, .int .i64 0, .int .i64 0, .slice none 0 0]) ∧ Hid (Blk wz Y 26 #[.int .i64 2, .string ⟨#[]⟩, .string ⟨#[]⟩, .string (tx ((cs.drop m).take k)), .bool false, .int .i64 0, .int .i64 0, .int .i64 0, .slice none 0 0]) ∧ Hid (Blk wz Z 26 #[.int .i64 2, .string ⟨#[]⟩, .string ⟨#[]⟩, .string (tx (cs.drop (m + k))), .bool false, .int .i64 0, .int .i64 0, .int .i64 0, .slice none 0 0]) ∧ Hid (Below w5.heap.size w5 wz))
    case first =>
      refine wp_region_G (S1 := fun w' => w'.cell? ⟨V, 0, none⟩ = some (.int .i64 2) ∧ w'.cell? ⟨V, 1, none⟩ = some (.string ⟨#[]⟩) ∧ w'.cell? ⟨V, 2, none⟩ = some (.string ⟨#[]⟩) ∧ w'.cell? ⟨V, 3, none⟩ = some (.string (tx cs)) ∧ w'.cell? ⟨V, 4, none⟩ = some (.bool false) ∧ w'.cell? ⟨V, 5, none⟩ = some (.int .i64 0) ∧ w'.cell? ⟨V, 6, none⟩ = some (.int .i64 0) ∧ w'.cell? ⟨V, 7, none⟩ = some (.int .i64 0) ∧ w'.cell? ⟨V, 8, none⟩ = some (.slice none 0 0)) (S2 := fun _ => True) (d := 99) (by kernel_rfl) (HSS.out _ (Below.refl _ w5).drew) trivial (fun hT => ?_)
      refine wpAnyG_take1d (i := 0) (v := ?_) rfl rfl (by kernel_rfl) (by kernel_rfl) (by kernel_rfl) (by kernel_rfl) (fun _ _ _ h => h) (Or.inl ⟨by rfl, ?_⟩) (by assumption) (fun hT => ?_)
      rotate_left
      · intro w hSw
        (try dsimp only at hSw)
        go_simp
        (try with_reducible rfl)
      (try simp only [Act.put, List.setIfInBounds_toArray, List.set_cons_zero, List.set_cons_succ])
      refine wpAnyG_take1d (i := 1) (v := ?_) rfl rfl (by kernel_rfl) (by kernel_rfl) (by kernel_rfl) (by kernel_rfl) (fun _ _ _ h => h) (Or.inl ⟨by rfl, ?_⟩) (by assumption) (fun hT => ?_)
      rotate_left
      · intro w hSw
        (try dsimp only at hSw)
        go_simp
        (try with_reducible rfl)
      (try simp only [Act.put, List.setIfInBounds_toArray, List.set_cons_zero, List.set_cons_succ])
      refine wpAnyG_take1d (i := 5) (v := ?_) rfl rfl (by kernel_rfl) (by kernel_rfl) (by kernel_rfl) (by kernel_rfl) (fun _ _ _ h => h) (Or.inl ⟨by rfl, ?_⟩) (by assumption) (fun hT => ?_)
      rotate_left
      · intro w hSw
        (try dsimp only at hSw)
        go_simp
        (try with_reducible rfl)
      (try simp only [Act.put, List.setIfInBounds_toArray, List.set_cons_zero, List.set_cons_succ])
      refine wpAnyG_take1d (i := 6) (v := ?_) rfl rfl (by kernel_rfl) (by kernel_rfl) (by kernel_rfl) (by kernel_rfl) (fun _ _ _ h => h) (Or.inl ⟨by rfl, ?_⟩) (by assumption) (fun hT => ?_)
      rotate_left
      · intro w hSw
        (try dsimp only at hSw)
        go_simp
        (try with_reducible rfl)
      (try simp only [Act.put, List.setIfInBounds_toArray, List.set_cons_zero, List.set_cons_succ])
      refine wpAnyG_take1d (i := 7) (v := ?_) rfl rfl (by kernel_rfl) (by kernel_rfl) (by kernel_rfl) (by kernel_rfl) (fun _ _ _ h => h) (Or.inl ⟨by rfl, ?_⟩) (by assumption) (fun hT => ?_)
      rotate_left
      · intro w hSw
        (try dsimp only at hSw)
        go_simp
        (try with_reducible rfl)
      (try simp only [Act.put, List.setIfInBounds_toArray, List.set_cons_zero, List.set_cons_succ])
      refine wpAnyG_take1d (i := 9) (v := ?_) rfl rfl (by kernel_rfl) (by kernel_rfl) (by kernel_rfl) (by kernel_rfl) (fun _ _ _ h => h) (Or.inl ⟨by rfl, ?_⟩) (by assumption) (fun hT => ?_)
      rotate_left
      · intro w hSw
        (try dsimp only at hSw)
        go_simp
        (try with_reducible rfl)
      (try simp only [Act.put, List.setIfInBounds_toArray, List.set_cons_zero, List.set_cons_succ])
      refine wpAnyG_take1d (i := 13) (v := ?_) rfl rfl (by kernel_rfl) (by kernel_rfl) (by kernel_rfl) (by kernel_rfl) (fun _ _ _ h => h) (Or.inl ⟨by rfl, ?_⟩) (by assumption) (fun hT => ?_)
      rotate_left
      · intro w hSw
        (try dsimp only at hSw)
        go_simp
        (try with_reducible rfl)
      (try simp only [Act.put, List.setIfInBounds_toArray, List.set_cons_zero, List.set_cons_succ])
      refine wpAnyG_take1d (i := 14) (v := ?_) rfl rfl (by kernel_rfl) (by kernel_rfl) (by kernel_rfl) (by kernel_rfl) (fun _ _ _ h => h) (Or.inl ⟨by rfl, ?_⟩) (by assumption) (fun hT => ?_)
      rotate_left
      · intro w hSw
        (try dsimp only at hSw)
        go_simp
        (try with_reducible rfl)
      (try simp only [Act.put, List.setIfInBounds_toArray, List.set_cons_zero, List.set_cons_succ])
      refine wpAnyG_take1d (i := 15) (v := ?_) rfl rfl (by kernel_rfl) (by kernel_rfl) (by kernel_rfl) (by kernel_rfl) (fun _ _ _ h => h) (Or.inl ⟨by rfl, ?_⟩) (by assumption) (fun hT => ?_)
      rotate_left
      · intro w hSw
        (try dsimp only at hSw)
        go_simp
        (try with_reducible rfl)
      (try simp only [Act.put, List.setIfInBounds_toArray, List.set_cons_zero, List.set_cons_succ])
      refine wpAnyG_take1d (i := 16) (v := ?_) rfl rfl (by kernel_rfl) (by kernel_rfl) (by kernel_rfl) (by kernel_rfl) (fun _ _ _ h => h) (Or.inl ⟨by rfl, ?_⟩) (by assumption) (fun hT => ?_)
      rotate_left
      · intro w hSw
        (try dsimp only at hSw)
        go_simp
        (try with_reducible rfl)
      (try simp only [Act.put, List.setIfInBounds_toArray, List.set_cons_zero, List.set_cons_succ])
      refine wpAnyG_take1d (i := 17) (v := ?_) rfl rfl (by kernel_rfl) (by kernel_rfl) (by kernel_rfl) (by kernel_rfl) (fun _ _ _ h => h) (Or.inl ⟨by rfl, ?_⟩) (by assumption) (fun hT => ?_)
      rotate_left
      · intro w hSw
        (try dsimp only at hSw)
        go_simp
        (try with_reducible rfl)
      (try simp only [Act.put, List.setIfInBounds_toArray, List.set_cons_zero, List.set_cons_succ])
      refine wpAnyG_take1d (i := 18) (v := ?_) rfl rfl (by kernel_rfl) (by kernel_rfl) (by kernel_rfl) (by kernel_rfl) (fun _ _ _ h => h) (Or.inl ⟨by rfl, ?_⟩) (by assumption) (fun hT => ?_)
      rotate_left
      · intro w hSw
        (try dsimp only at hSw)
        go_simp
        (try with_reducible rfl)
      (try simp only [Act.put, List.setIfInBounds_toArray, List.set_cons_zero, List.set_cons_succ])
      refine weave0 (T := 26) (Z := #[.int .i64 0, .string ⟨#[]⟩, .string ⟨#[]⟩, .string ⟨#[]⟩, .bool false, .int .i64 0, .int .i64 0, .int .i64 0, .slice none 0 0]) (w0 := w5) 22 23 24 12 13 14 undef undef undef 13 (fun (e : Nat × Nat × Nat) W => Below w5.heap.size w5 W) (fun _ => []) (0, 0, 0) (Below.refl _ _).drew (by kernel_rfl) (by simp only [puts, List.cons_append, List.nil_append, Act.put, List.setIfInBounds_toArray, List.set_cons_zero, List.set_cons_succ]) ?_ ?_ ?_ (fun W h => HSS.out W h) (fun A1 A2 A3 hS => ?_)
      · exact fun K a W h => wpOp_step rfl (fun K' hK' => by
          go_simp
          exact hK' _ _ h)
      · exact fun K a W h => wpOp_step rfl (fun K' hK' => by
          go_simp
          exact hK' _ _ h)
      · exact fun K a W h => wpOp_step rfl (fun K' hK' => by
          go_simp
          exact hK' _ _ h)
      refine weave1 22 23 24 12 13 14 2 (fun (e : Nat × Nat × Nat) W => Below w5.heap.size w5 W) (fun (e : Nat × Nat × Nat) => [(46, (.agg #[.int .i64 1, .string (nt m), .string ⟨#[49]⟩, .string ⟨#[]⟩, .bool false, .int .i64 0, .int .i64 0, .int .i64 0, .slice none 0 0]))]) rfl (by kernel_rfl) A1 A2 A3 hS (fun e W h => h) (fun e W W' h hb => h.trans (hb.mono h.size)) (fun e W h => h) (fun K x1 x2 x3 e W hf hK => ?_) ?_
      · refine wpOp_step rfl (fun K' hK' => ?_)
        simp only [puts, List.cons_append, List.nil_append, Act.put, List.setIfInBounds_toArray, List.set_cons_zero, List.set_cons_succ] at hK ⊢
        go_simp
        go_at_call 11
        (with_reducible refine (whole_x _ m W (HCT.out W hf) ?_ (by omega)).mono ?_)
        · first | rfl | omega | (rw [IntWalk.i64_in _ (by omega)]; omega) | (rw [i1, i2])
        rintro e2 w1 ⟨rfl, hb⟩
        exact hK' _ _ (hK.out e w1 (hf.trans (hb.mono hf.size)) hb)
      refine weave1 22 23 24 12 13 14 3 (fun (e : Nat × Nat × Nat) W => Below w5.heap.size w5 W ∧ Reads 9 csV W (.slice (some ⟨e.1, 0, none⟩) 2 2) [tV (tx cs), nV m]) (fun (e : Nat × Nat × Nat) => [(46, (.agg #[.int .i64 1, .string (nt m), .string ⟨#[49]⟩, .string ⟨#[]⟩, .bool false, .int .i64 0, .int .i64 0, .int .i64 0, .slice none 0 0])), (47, .slice (some ⟨e.1, 0, none⟩) 2 2)]) rfl (by kernel_rfl) A1 A2 A3 hS (fun e W h => h) (fun e W W' h hb => h.trans (hb.mono h.size)) (fun e W h => h.1) (fun K x1 x2 x3 e W hf hK => ?_) ?_
      · refine wpOp_step rfl (fun K' hK' => ?_)
        simp only [puts, List.cons_append, List.nil_append, Act.put, List.setIfInBounds_toArray, List.set_cons_zero, List.set_cons_succ] at hK ⊢
        go_simp
        refine gen_w ?_
        intro w1 hwa
        have hb : Below W.heap.size W w1 := by rw [hwa]; exact below_al W _
        have hr : Reads 9 csV w1 (.slice (some ⟨W.heap.size, 0, none⟩) 2 2) [tV (tx cs), nV m] := by rw [hwa]; exact reads_newN W _ [tV (tx cs), nV m] rfl
        clear hwa
        exact hK' _ _ (hK.out (W.heap.size, e.2.1, e.2.2) w1 ⟨hf.trans (hb.mono hf.size), hr⟩ hb)
      refine weave1 22 23 24 12 13 14 4 (fun (e : Nat × Nat × Nat) W => Below w5.heap.size w5 W) (fun (e : Nat × Nat × Nat) => [(46, (.agg #[.int .i64 1, .string (nt m), .string ⟨#[49]⟩, .string ⟨#[]⟩, .bool false, .int .i64 0, .int .i64 0, .int .i64 0, .slice none 0 0])), (47, .slice (some ⟨e.1, 0, none⟩) 2 2), (48, (.agg #[.int .i64 2, .string ⟨#[]⟩, .string ⟨#[]⟩, .string (tx (cs.take m)), .bool false, .int .i64 0, .int .i64 0, .int .i64 0, .slice none 0 0]))]) rfl (by kernel_rfl) A1 A2 A3 hS (fun e W h => h.1) (fun e W W' h hb => ⟨h.1.trans (hb.mono h.1.size), h.2.below hb⟩) (fun e W h => h) (fun K x1 x2 x3 e W hf hK => ?_) ?_
      · refine wpOp_step rfl (fun K' hK' => ?_)
        simp only [puts, List.cons_append, List.nil_append, Act.put, List.setIfInBounds_toArray, List.set_cons_zero, List.set_cons_succ] at hK ⊢
        go_simp
        go_at_call 8
        (with_reducible refine (HLEF.out W _ _ (HCT.out W hf.1) hf.2).mono ?_)
        rintro e2 w1 ⟨rfl, hb⟩
        exact hK' _ _ (hK.out e w1 (hf.1.trans (hb.mono hf.1.size)) hb)
      refine weave1 22 23 24 12 13 14 8 (fun (e : Nat × Nat × Nat) W => Below w5.heap.size w5 W) (fun (e : Nat × Nat × Nat) => [(46, (.agg #[.int .i64 1, .string (nt m), .string ⟨#[49]⟩, .string ⟨#[]⟩, .bool false, .int .i64 0, .int .i64 0, .int .i64 0, .slice none 0 0])), (47, .slice (some ⟨e.1, 0, none⟩) 2 2), (48, (.agg #[.int .i64 2, .string ⟨#[]⟩, .string ⟨#[]⟩, .string (tx (cs.take m)), .bool false, .int .i64 0, .int .i64 0, .int .i64 0, .slice none 0 0])), (52, (.agg #[.int .i64 1, .string (nt (m + 1)), .string ⟨#[49]⟩, .string ⟨#[]⟩, .bool false, .int .i64 0, .int .i64 0, .int .i64 0, .slice none 0 0]))]) rfl (by kernel_rfl) A1 A2 A3 hS (fun e W h => h) (fun e W W' h hb => h.trans (hb.mono h.size)) (fun e W h => h) (fun K x1 x2 x3 e W hf hK => ?_) ?_
      · refine wpOp_step rfl (fun K' hK' => ?_)
        simp only [puts, List.cons_append, List.nil_append, Act.put, List.setIfInBounds_toArray, List.set_cons_zero, List.set_cons_succ] at hK ⊢
        go_simp
        go_at_call 11
        (with_reducible refine (whole_x _ (m + 1) W (HCT.out W hf) ?_ (by omega)).mono ?_)
        · first | rfl | omega | (rw [IntWalk.i64_in _ (by omega)]; omega) | (rw [i1, i2])
        rintro e2 w1 ⟨rfl, hb⟩
        exact hK' _ _ (hK.out e w1 (hf.trans (hb.mono hf.size)) hb)
      refine weave1 22 23 24 12 13 14 10 (fun (e : Nat × Nat × Nat) W => Below w5.heap.size w5 W) (fun (e : Nat × Nat × Nat) => [(46, (.agg #[.int .i64 1, .string (nt m), .string ⟨#[49]⟩, .string ⟨#[]⟩, .bool false, .int .i64 0, .int .i64 0, .int .i64 0, .slice none 0 0])), (47, .slice (some ⟨e.1, 0, none⟩) 2 2), (48, (.agg #[.int .i64 2, .string ⟨#[]⟩, .string ⟨#[]⟩, .string (tx (cs.take m)), .bool false, .int .i64 0, .int .i64 0, .int .i64 0, .slice none 0 0])), (52, (.agg #[.int .i64 1, .string (nt (m + 1)), .string ⟨#[49]⟩, .string ⟨#[]⟩, .bool false, .int .i64 0, .int .i64 0, .int .i64 0, .slice none 0 0])), (54, (.agg #[.int .i64 1, .string (nt k), .string ⟨#[49]⟩, .string ⟨#[]⟩, .bool false, .int .i64 0, .int .i64 0, .int .i64 0, .slice none 0 0]))]) rfl (by kernel_rfl) A1 A2 A3 hS (fun e W h => h) (fun e W W' h hb => h.trans (hb.mono h.size)) (fun e W h => h) (fun K x1 x2 x3 e W hf hK => ?_) ?_
      · refine wpOp_step rfl (fun K' hK' => ?_)
        simp only [puts, List.cons_append, List.nil_append, Act.put, List.setIfInBounds_toArray, List.set_cons_zero, List.set_cons_succ] at hK ⊢
        go_simp
        go_at_call 11
        (with_reducible refine (whole_x _ k W (HCT.out W hf) ?_ (by omega)).mono ?_)
        · first | rfl | omega | (rw [IntWalk.i64_in _ (by omega)]; omega) | (rw [i1, i2])
        rintro e2 w1 ⟨rfl, hb⟩
        exact hK' _ _ (hK.out e w1 (hf.trans (hb.mono hf.size)) hb)
      refine weave1 22 23 24 12 13 14 11 (fun (e : Nat × Nat × Nat) W => Below w5.heap.size w5 W ∧ Reads 9 csV W (.slice (some ⟨e.2.1, 0, none⟩) 3 3) [tV (tx cs), nV (m + 1), nV k]) (fun (e : Nat × Nat × Nat) => [(46, (.agg #[.int .i64 1, .string (nt m), .string ⟨#[49]⟩, .string ⟨#[]⟩, .bool false, .int .i64 0, .int .i64 0, .int .i64 0, .slice none 0 0])), (47, .slice (some ⟨e.1, 0, none⟩) 2 2), (48, (.agg #[.int .i64 2, .string ⟨#[]⟩, .string ⟨#[]⟩, .string (tx (cs.take m)), .bool false, .int .i64 0, .int .i64 0, .int .i64 0, .slice none 0 0])), (52, (.agg #[.int .i64 1, .string (nt (m + 1)), .string ⟨#[49]⟩, .string ⟨#[]⟩, .bool false, .int .i64 0, .int .i64 0, .int .i64 0, .slice none 0 0])), (54, (.agg #[.int .i64 1, .string (nt k), .string ⟨#[49]⟩, .string ⟨#[]⟩, .bool false, .int .i64 0, .int .i64 0, .int .i64 0, .slice none 0 0])), (55, .slice (some ⟨e.2.1, 0, none⟩) 3 3)]) rfl (by kernel_rfl) A1 A2 A3 hS (fun e W h => h) (fun e W W' h hb => h.trans (hb.mono h.size)) (fun e W h => h.1) (fun K x1 x2 x3 e W hf hK => ?_) ?_
      · refine wpOp_step rfl (fun K' hK' => ?_)
        simp only [puts, List.cons_append, List.nil_append, Act.put, List.setIfInBounds_toArray, List.set_cons_zero, List.set_cons_succ] at hK ⊢
        go_simp
        refine gen_w ?_
        intro w1 hwa
        have hb : Below W.heap.size W w1 := by rw [hwa]; exact below_al W _
        have hr : Reads 9 csV w1 (.slice (some ⟨W.heap.size, 0, none⟩) 3 3) [tV (tx cs), nV (m + 1), nV k] := by rw [hwa]; exact reads_newN W _ [tV (tx cs), nV (m + 1), nV k] rfl
        clear hwa
        exact hK' _ _ (hK.out (e.1, W.heap.size, e.2.2) w1 ⟨hf.trans (hb.mono hf.size), hr⟩ hb)
      refine weave1 22 23 24 12 13 14 12 (fun (e : Nat × Nat × Nat) W => Below w5.heap.size w5 W) (fun (e : Nat × Nat × Nat) => [(46, (.agg #[.int .i64 1, .string (nt m), .string ⟨#[49]⟩, .string ⟨#[]⟩, .bool false, .int .i64 0, .int .i64 0, .int .i64 0, .slice none 0 0])), (47, .slice (some ⟨e.1, 0, none⟩) 2 2), (48, (.agg #[.int .i64 2, .string ⟨#[]⟩, .string ⟨#[]⟩, .string (tx (cs.take m)), .bool false, .int .i64 0, .int .i64 0, .int .i64 0, .slice none 0 0])), (52, (.agg #[.int .i64 1, .string (nt (m + 1)), .string ⟨#[49]⟩, .string ⟨#[]⟩, .bool false, .int .i64 0, .int .i64 0, .int .i64 0, .slice none 0 0])), (54, (.agg #[.int .i64 1, .string (nt k), .string ⟨#[49]⟩, .string ⟨#[]⟩, .bool false, .int .i64 0, .int .i64 0, .int .i64 0, .slice none 0 0])), (55, .slice (some ⟨e.2.1, 0, none⟩) 3 3), (56, (.agg #[.int .i64 2, .string ⟨#[]⟩, .string ⟨#[]⟩, .string (tx ((cs.drop m).take k)), .bool false, .int .i64 0, .int .i64 0, .int .i64 0, .slice none 0 0]))]) rfl (by kernel_rfl) A1 A2 A3 hS (fun e W h => h.1) (fun e W W' h hb => ⟨h.1.trans (hb.mono h.1.size), h.2.below hb⟩) (fun e W h => h) (fun K x1 x2 x3 e W hf hK => ?_) ?_
      · refine wpOp_step rfl (fun K' hK' => ?_)
        simp only [puts, List.cons_append, List.nil_append, Act.put, List.setIfInBounds_toArray, List.set_cons_zero, List.set_cons_succ] at hK ⊢
        go_simp
        go_at_call 8
        (with_reducible refine (HMID.out W _ _ (HCT.out W hf.1) hf.2).mono ?_)
        rintro e2 w1 ⟨rfl, hb⟩
        exact hK' _ _ (hK.out e w1 (hf.1.trans (hb.mono hf.1.size)) hb)
      refine weave1 22 23 24 12 13 14 19 (fun (e : Nat × Nat × Nat) W => Below w5.heap.size w5 W) (fun (e : Nat × Nat × Nat) => [(46, (.agg #[.int .i64 1, .string (nt m), .string ⟨#[49]⟩, .string ⟨#[]⟩, .bool false, .int .i64 0, .int .i64 0, .int .i64 0, .slice none 0 0])), (47, .slice (some ⟨e.1, 0, none⟩) 2 2), (48, (.agg #[.int .i64 2, .string ⟨#[]⟩, .string ⟨#[]⟩, .string (tx (cs.take m)), .bool false, .int .i64 0, .int .i64 0, .int .i64 0, .slice none 0 0])), (52, (.agg #[.int .i64 1, .string (nt (m + 1)), .string ⟨#[49]⟩, .string ⟨#[]⟩, .bool false, .int .i64 0, .int .i64 0, .int .i64 0, .slice none 0 0])), (54, (.agg #[.int .i64 1, .string (nt k), .string ⟨#[49]⟩, .string ⟨#[]⟩, .bool false, .int .i64 0, .int .i64 0, .int .i64 0, .slice none 0 0])), (55, .slice (some ⟨e.2.1, 0, none⟩) 3 3), (56, (.agg #[.int .i64 2, .string ⟨#[]⟩, .string ⟨#[]⟩, .string (tx ((cs.drop m).take k)), .bool false, .int .i64 0, .int .i64 0, .int .i64 0, .slice none 0 0])), (63, (.agg #[.int .i64 1, .string (nt (N - m - k)), .string ⟨#[49]⟩, .string ⟨#[]⟩, .bool false, .int .i64 0, .int .i64 0, .int .i64 0, .slice none 0 0]))]) rfl (by kernel_rfl) A1 A2 A3 hS (fun e W h => h) (fun e W W' h hb => h.trans (hb.mono h.size)) (fun e W h => h) (fun K x1 x2 x3 e W hf hK => ?_) ?_
      · refine wpOp_step rfl (fun K' hK' => ?_)
        simp only [puts, List.cons_append, List.nil_append, Act.put, List.setIfInBounds_toArray, List.set_cons_zero, List.set_cons_succ] at hK ⊢
        go_simp
        go_at_call 11
        (with_reducible refine (whole_x _ (N - m - k) W (HCT.out W hf) ?_ (by omega)).mono ?_)
        · first | rfl | omega | (rw [IntWalk.i64_in _ (by omega)]; omega) | (rw [i1, i2])
        rintro e2 w1 ⟨rfl, hb⟩
        exact hK' _ _ (hK.out e w1 (hf.trans (hb.mono hf.size)) hb)
      refine weave1 22 23 24 12 13 14 20 (fun (e : Nat × Nat × Nat) W => Below w5.heap.size w5 W ∧ Reads 9 csV W (.slice (some ⟨e.2.2, 0, none⟩) 2 2) [tV (tx cs), nV (N - m - k)]) (fun (e : Nat × Nat × Nat) => [(46, (.agg #[.int .i64 1, .string (nt m), .string ⟨#[49]⟩, .string ⟨#[]⟩, .bool false, .int .i64 0, .int .i64 0, .int .i64 0, .slice none 0 0])), (47, .slice (some ⟨e.1, 0, none⟩) 2 2), (48, (.agg #[.int .i64 2, .string ⟨#[]⟩, .string ⟨#[]⟩, .string (tx (cs.take m)), .bool false, .int .i64 0, .int .i64 0, .int .i64 0, .slice none 0 0])), (52, (.agg #[.int .i64 1, .string (nt (m + 1)), .string ⟨#[49]⟩, .string ⟨#[]⟩, .bool false, .int .i64 0, .int .i64 0, .int .i64 0, .slice none 0 0])), (54, (.agg #[.int .i64 1, .string (nt k), .string ⟨#[49]⟩, .string ⟨#[]⟩, .bool false, .int .i64 0, .int .i64 0, .int .i64 0, .slice none 0 0])), (55, .slice (some ⟨e.2.1, 0, none⟩) 3 3), (56, (.agg #[.int .i64 2, .string ⟨#[]⟩, .string ⟨#[]⟩, .string (tx ((cs.drop m).take k)), .bool false, .int .i64 0, .int .i64 0, .int .i64 0, .slice none 0 0])), (63, (.agg #[.int .i64 1, .string (nt (N - m - k)), .string ⟨#[49]⟩, .string ⟨#[]⟩, .bool false, .int .i64 0, .int .i64 0, .int .i64 0, .slice none 0 0])), (64, .slice (some ⟨e.2.2, 0, none⟩) 2 2)]) rfl (by kernel_rfl) A1 A2 A3 hS (fun e W h => h) (fun e W W' h hb => h.trans (hb.mono h.size)) (fun e W h => h.1) (fun K x1 x2 x3 e W hf hK => ?_) ?_
      · refine wpOp_step rfl (fun K' hK' => ?_)
        simp only [puts, List.cons_append, List.nil_append, Act.put, List.setIfInBounds_toArray, List.set_cons_zero, List.set_cons_succ] at hK ⊢
        go_simp
        refine gen_w ?_
        intro w1 hwa
        have hb : Below W.heap.size W w1 := by rw [hwa]; exact below_al W _
        have hr : Reads 9 csV w1 (.slice (some ⟨W.heap.size, 0, none⟩) 2 2) [tV (tx cs), nV (N - m - k)] := by rw [hwa]; exact reads_newN W _ [tV (tx cs), nV (N - m - k)] rfl
        clear hwa
        exact hK' _ _ (hK.out (e.1, e.2.1, W.heap.size) w1 ⟨hf.trans (hb.mono hf.size), hr⟩ hb)
      refine weave1 22 23 24 12 13 14 21 (fun (e : Nat × Nat × Nat) W => Below w5.heap.size w5 W) (fun (e : Nat × Nat × Nat) => [(46, (.agg #[.int .i64 1, .string (nt m), .string ⟨#[49]⟩, .string ⟨#[]⟩, .bool false, .int .i64 0, .int .i64 0, .int .i64 0, .slice none 0 0])), (47, .slice (some ⟨e.1, 0, none⟩) 2 2), (48, (.agg #[.int .i64 2, .string ⟨#[]⟩, .string ⟨#[]⟩, .string (tx (cs.take m)), .bool false, .int .i64 0, .int .i64 0, .int .i64 0, .slice none 0 0])), (52, (.agg #[.int .i64 1, .string (nt (m + 1)), .string ⟨#[49]⟩, .string ⟨#[]⟩, .bool false, .int .i64 0, .int .i64 0, .int .i64 0, .slice none 0 0])), (54, (.agg #[.int .i64 1, .string (nt k), .string ⟨#[49]⟩, .string ⟨#[]⟩, .bool false, .int .i64 0, .int .i64 0, .int .i64 0, .slice none 0 0])), (55, .slice (some ⟨e.2.1, 0, none⟩) 3 3), (56, (.agg #[.int .i64 2, .string ⟨#[]⟩, .string ⟨#[]⟩, .string (tx ((cs.drop m).take k)), .bool false, .int .i64 0, .int .i64 0, .int .i64 0, .slice none 0 0])), (63, (.agg #[.int .i64 1, .string (nt (N - m - k)), .string ⟨#[49]⟩, .string ⟨#[]⟩, .bool false, .int .i64 0, .int .i64 0, .int .i64 0, .slice none 0 0])), (64, .slice (some ⟨e.2.2, 0, none⟩) 2 2), (65, (.agg #[.int .i64 2, .string ⟨#[]⟩, .string ⟨#[]⟩, .string (tx (cs.drop (m + k))), .bool false, .int .i64 0, .int .i64 0, .int .i64 0, .slice none 0 0]))]) rfl (by kernel_rfl) A1 A2 A3 hS (fun e W h => h.1) (fun e W W' h hb => ⟨h.1.trans (hb.mono h.1.size), h.2.below hb⟩) (fun e W h => h) (fun K x1 x2 x3 e W hf hK => ?_) ?_
      · refine wpOp_step rfl (fun K' hK' => ?_)
        simp only [puts, List.cons_append, List.nil_append, Act.put, List.setIfInBounds_toArray, List.set_cons_zero, List.set_cons_succ] at hK ⊢
        go_simp
        go_at_call 8
        (with_reducible refine (HRIG.out W _ _ (HCT.out W hf.1) hf.2).mono ?_)
        rintro e2 w1 ⟨rfl, hb⟩
        exact hK' _ _ (hK.out e w1 (hf.1.trans (hb.mono hf.1.size)) hb)
      refine weave_end 22 23 24 12 13 14 rfl (by kernel_rfl) A1 A2 A3 hS (fun e W h => h) (fun e W W' h hb => h.trans (hb.mono h.size)) (fun x1 x2 x3 e W hf hok => ?_)
      obtain ⟨g1, g2, g3, h1, h2, h3, d12, d13, d23⟩ := hok
      obtain ⟨rfl, l1, k1⟩ := h1 rfl
      obtain ⟨rfl, l2, k2⟩ := h2 rfl
      obtain ⟨rfl, l3, k3⟩ := h3 rfl
      have d12 := d12 rfl rfl
      have d13 := d13 rfl rfl
      have d23 := d23 rfl rfl
      clear h1 h2 h3 A1 A2 A3 hS
      simp only [puts, List.cons_append, List.nil_append, Act.put, List.setIfInBounds_toArray, List.set_cons_zero, List.set_cons_succ]
      have HK1 := Lib.hid k1
      have HK2 := Lib.hid k2
      have HK3 := Lib.hid k3
      have HFW := Lib.hid hf
      have hT : (W.cell? ⟨V, 0, none⟩ = some (.int .i64 2) ∧ W.cell? ⟨V, 1, none⟩ = some (.string ⟨#[]⟩) ∧ W.cell? ⟨V, 2, none⟩ = some (.string ⟨#[]⟩) ∧ W.cell? ⟨V, 3, none⟩ = some (.string (tx cs)) ∧ W.cell? ⟨V, 4, none⟩ = some (.bool false) ∧ W.cell? ⟨V, 5, none⟩ = some (.int .i64 0) ∧ W.cell? ⟨V, 6, none⟩ = some (.int .i64 0) ∧ W.cell? ⟨V, 7, none⟩ = some (.int .i64 0) ∧ W.cell? ⟨V, 8, none⟩ = some (.slice none 0 0)) ∧ True := ⟨HSS.out _ hf, trivial⟩
      clear k1 k2 k3 hf
      refine wpAnyG_ready (rs := [25]) (by kernel_rfl) (by simp) ?_
      refine AllG.cons (i := 25) rfl (fun K hK => ?_) AllG.nil
      obtain ⟨z0, z1, z2, z3, z4, z5, z6, z7, z8⟩ := HK1.out.nine
      obtain ⟨f0, f1, f2, f3, f4, f5, f6, f7, f8⟩ := HK1.out.ninef
      go_simp
      refine gen_w ?_
      intro wt1 hwa
      have HFn := Lib.hid (show Below w5.heap.size w5 wt1 from by rw [hwa]; exact below_nine HFW.out l1 (.int .i64 2) (.string ⟨#[]⟩) (.string ⟨#[]⟩) (.string (tx (cs.take m))) (.bool false) (.int .i64 0) (.int .i64 0) (.int .i64 0) (.slice none 0 0))
      have HN1 := Lib.hid (show Blk wt1 g1 26 #[.int .i64 2, .string ⟨#[]⟩, .string ⟨#[]⟩, .string (tx (cs.take m)), .bool false, .int .i64 0, .int .i64 0, .int .i64 0, .slice none 0 0] from by rw [hwa]; exact (HK1.out.nine_set (.int .i64 2) (.string ⟨#[]⟩) (.string ⟨#[]⟩) (.string (tx (cs.take m))) (.bool false) (.int .i64 0) (.int .i64 0) (.int .i64 0) (.slice none 0 0)).1)
      have HN2 := Lib.hid (show Blk wt1 g2 26 #[.int .i64 0, .string ⟨#[]⟩, .string ⟨#[]⟩, .string ⟨#[]⟩, .bool false, .int .i64 0, .int .i64 0, .int .i64 0, .slice none 0 0] from by rw [hwa]; exact nine_far HK2.out d12.symm (.int .i64 2) (.string ⟨#[]⟩) (.string ⟨#[]⟩) (.string (tx (cs.take m))) (.bool false) (.int .i64 0) (.int .i64 0) (.int .i64 0) (.slice none 0 0))
      have HN3 := Lib.hid (show Blk wt1 g3 26 #[.int .i64 0, .string ⟨#[]⟩, .string ⟨#[]⟩, .string ⟨#[]⟩, .bool false, .int .i64 0, .int .i64 0, .int .i64 0, .slice none 0 0] from by rw [hwa]; exact nine_far HK3.out d13.symm (.int .i64 2) (.string ⟨#[]⟩) (.string ⟨#[]⟩) (.string (tx (cs.take m))) (.bool false) (.int .i64 0) (.int .i64 0) (.int .i64 0) (.slice none 0 0))
      clear hwa HFW HK1 HK2 HK3
      have HFW := HFn
      have HK1 := HN1
      have HK2 := HN2
      have HK3 := HN3
      clear HFn HN1 HN2 HN3 z0 z1 z2 z3 z4 z5 z6 z7 z8 f0 f1 f2 f3 f4 f5 f6 f7 f8
      refine hK.out _ _ ⟨HSS.out _ HFW.out, .inr trivial⟩ (fun hT => ?_)
      clear hK K
      (try simp only [Act.put, List.setIfInBounds_toArray, List.set_cons_zero, List.set_cons_succ])
      refine wpAnyG_ready (rs := [26]) (by kernel_rfl) (by simp) ?_
      refine AllG.cons (i := 26) rfl (fun K hK => ?_) AllG.nil
      obtain ⟨z0, z1, z2, z3, z4, z5, z6, z7, z8⟩ := HK2.out.nine
      obtain ⟨f0, f1, f2, f3, f4, f5, f6, f7, f8⟩ := HK2.out.ninef
      go_simp
      refine gen_w ?_
      intro wt2 hwa
      have HFn := Lib.hid (show Below w5.heap.size w5 wt2 from by rw [hwa]; exact below_nine HFW.out l2 (.int .i64 2) (.string ⟨#[]⟩) (.string ⟨#[]⟩) (.string (tx ((cs.drop m).take k))) (.bool false) (.int .i64 0) (.int .i64 0) (.int .i64 0) (.slice none 0 0))
      have HN1 := Lib.hid (show Blk wt2 g1 26 #[.int .i64 2, .string ⟨#[]⟩, .string ⟨#[]⟩, .string (tx (cs.take m)), .bool false, .int .i64 0, .int .i64 0, .int .i64 0, .slice none 0 0] from by rw [hwa]; exact nine_far HK1.out d12 (.int .i64 2) (.string ⟨#[]⟩) (.string ⟨#[]⟩) (.string (tx ((cs.drop m).take k))) (.bool false) (.int .i64 0) (.int .i64 0) (.int .i64 0) (.slice none 0 0))
      have HN2 := Lib.hid (show Blk wt2 g2 26 #[.int .i64 2, .string ⟨#[]⟩, .string ⟨#[]⟩, .string (tx ((cs.drop m).take k)), .bool false, .int .i64 0, .int .i64 0, .int .i64 0, .slice none 0 0] from by rw [hwa]; exact (HK2.out.nine_set (.int .i64 2) (.string ⟨#[]⟩) (.string ⟨#[]⟩) (.string (tx ((cs.drop m).take k))) (.bool false) (.int .i64 0) (.int .i64 0) (.int .i64 0) (.slice none 0 0)).1)
      have HN3 := Lib.hid (show Blk wt2 g3 26 #[.int .i64 0, .string ⟨#[]⟩, .string ⟨#[]⟩, .string ⟨#[]⟩, .bool false, .int .i64 0, .int .i64 0, .int .i64 0, .slice none 0 0] from by rw [hwa]; exact nine_far HK3.out d23.symm (.int .i64 2) (.string ⟨#[]⟩) (.string ⟨#[]⟩) (.string (tx ((cs.drop m).take k))) (.bool false) (.int .i64 0) (.int .i64 0) (.int .i64 0) (.slice none 0 0))
      clear hwa HFW HK1 HK2 HK3
      have HFW := HFn
      have HK1 := HN1
      have HK2 := HN2
      have HK3 := HN3
      clear HFn HN1 HN2 HN3 z0 z1 z2 z3 z4 z5 z6 z7 z8 f0 f1 f2 f3 f4 f5 f6 f7 f8
      refine hK.out _ _ ⟨HSS.out _ HFW.out, .inr trivial⟩ (fun hT => ?_)
      clear hK K
      (try simp only [Act.put, List.setIfInBounds_toArray, List.set_cons_zero, List.set_cons_succ])
      refine wpAnyG_ready (rs := [27]) (by kernel_rfl) (by simp) ?_
      refine AllG.cons (i := 27) rfl (fun K hK => ?_) AllG.nil
      obtain ⟨z0, z1, z2, z3, z4, z5, z6, z7, z8⟩ := HK3.out.nine
      obtain ⟨f0, f1, f2, f3, f4, f5, f6, f7, f8⟩ := HK3.out.ninef
      go_simp
      refine gen_w ?_
      intro wt3 hwa
      have HFn := Lib.hid (show Below w5.heap.size w5 wt3 from by rw [hwa]; exact below_nine HFW.out l3 (.int .i64 2) (.string ⟨#[]⟩) (.string ⟨#[]⟩) (.string (tx (cs.drop (m + k)))) (.bool false) (.int .i64 0) (.int .i64 0) (.int .i64 0) (.slice none 0 0))
      have HN1 := Lib.hid (show Blk wt3 g1 26 #[.int .i64 2, .string ⟨#[]⟩, .string ⟨#[]⟩, .string (tx (cs.take m)), .bool false, .int .i64 0, .int .i64 0, .int .i64 0, .slice none 0 0] from by rw [hwa]; exact nine_far HK1.out d13 (.int .i64 2) (.string ⟨#[]⟩) (.string ⟨#[]⟩) (.string (tx (cs.drop (m + k)))) (.bool false) (.int .i64 0) (.int .i64 0) (.int .i64 0) (.slice none 0 0))
      have HN2 := Lib.hid (show Blk wt3 g2 26 #[.int .i64 2, .string ⟨#[]⟩, .string ⟨#[]⟩, .string (tx ((cs.drop m).take k)), .bool false, .int .i64 0, .int .i64 0, .int .i64 0, .slice none 0 0] from by rw [hwa]; exact nine_far HK2.out d23 (.int .i64 2) (.string ⟨#[]⟩) (.string ⟨#[]⟩) (.string (tx (cs.drop (m + k)))) (.bool false) (.int .i64 0) (.int .i64 0) (.int .i64 0) (.slice none 0 0))
      have HN3 := Lib.hid (show Blk wt3 g3 26 #[.int .i64 2, .string ⟨#[]⟩, .string ⟨#[]⟩, .string (tx (cs.drop (m + k))), .bool false, .int .i64 0, .int .i64 0, .int .i64 0, .slice none 0 0] from by rw [hwa]; exact (HK3.out.nine_set (.int .i64 2) (.string ⟨#[]⟩) (.string ⟨#[]⟩) (.string (tx (cs.drop (m + k)))) (.bool false) (.int .i64 0) (.int .i64 0) (.int .i64 0) (.slice none 0 0)).1)
      clear hwa HFW HK1 HK2 HK3
      have HFW := HFn
      have HK1 := HN1
      have HK2 := HN2
      have HK3 := HN3
      clear HFn HN1 HN2 HN3 z0 z1 z2 z3 z4 z5 z6 z7 z8 f0 f1 f2 f3 f4 f5 f6 f7 f8
      refine hK.out _ _ ⟨HSS.out _ HFW.out, .inr trivial⟩ (fun hT => ?_)
      clear hK K
      (try simp only [Act.put, List.setIfInBounds_toArray, List.set_cons_zero, List.set_cons_succ])
      refine wpAnyG_done (by kernel_rfl) ?_ _
      go_wp2_with fail
      go_meet
      exact ⟨g1, g2, g3, rfl, rfl, rfl, HK1, HK2, HK3, HFW⟩
    case rest =>
      obtain ⟨X, Y, Z, rfl, rfl, rfl, HPX, HPY, HPZ, HBR⟩ := hcut
      have HPVc := Lib.hid (HPV5.out.later HBR.out)
      have HBW := Lib.hid (HB5.out.trans (HBR.out.mono HB5.out.size))
      clear HSS HCT HLEF HMID HRIG HPV5 HB5 HBR i1 i2
      have HCT := Lib.hid (show ∀ w', Below wc.heap.size wc w' → VEnv w' from fun w' h => HE.out.below (HBW.out.trans (h.mono HBW.out.size)))
      have HSS := Lib.hid (show ∀ w', Below wc.heap.size wc w' → w'.cell? ⟨V, 0, none⟩ = some (.int .i64 2) ∧ w'.cell? ⟨V, 1, none⟩ = some (.string ⟨#[]⟩) ∧ w'.cell? ⟨V, 2, none⟩ = some (.string ⟨#[]⟩) ∧ w'.cell? ⟨V, 3, none⟩ = some (.string (tx cs)) ∧ w'.cell? ⟨V, 4, none⟩ = some (.bool false) ∧ w'.cell? ⟨V, 5, none⟩ = some (.int .i64 0) ∧ w'.cell? ⟨V, 6, none⟩ = some (.int .i64 0) ∧ w'.cell? ⟨V, 7, none⟩ = some (.int .i64 0) ∧ w'.cell? ⟨V, 8, none⟩ = some (.slice none 0 0) ∧ w'.cell? ⟨X, 0, none⟩ = some (.int .i64 2) ∧ w'.cell? ⟨X, 1, none⟩ = some (.string ⟨#[]⟩) ∧ w'.cell? ⟨X, 2, none⟩ = some (.string ⟨#[]⟩) ∧ w'.cell? ⟨X, 3, none⟩ = some (.string (tx (cs.take m))) ∧ w'.cell? ⟨X, 4, none⟩ = some (.bool false) ∧ w'.cell? ⟨X, 5, none⟩ = some (.int .i64 0) ∧ w'.cell? ⟨X, 6, none⟩ = some (.int .i64 0) ∧ w'.cell? ⟨X, 7, none⟩ = some (.int .i64 0) ∧ w'.cell? ⟨X, 8, none⟩ = some (.slice none 0 0) ∧ w'.cell? ⟨Y, 0, none⟩ = some (.int .i64 2) ∧ w'.cell? ⟨Y, 1, none⟩ = some (.string ⟨#[]⟩) ∧ w'.cell? ⟨Y, 2, none⟩ = some (.string ⟨#[]⟩) ∧ w'.cell? ⟨Y, 3, none⟩ = some (.string (tx ((cs.drop m).take k))) ∧ w'.cell? ⟨Y, 4, none⟩ = some (.bool false) ∧ w'.cell? ⟨Y, 5, none⟩ = some (.int .i64 0) ∧ w'.cell? ⟨Y, 6, none⟩ = some (.int .i64 0) ∧ w'.cell? ⟨Y, 7, none⟩ = some (.int .i64 0) ∧ w'.cell? ⟨Y, 8, none⟩ = some (.slice none 0 0) ∧ w'.cell? ⟨Z, 0, none⟩ = some (.int .i64 2) ∧ w'.cell? ⟨Z, 1, none⟩ = some (.string ⟨#[]⟩) ∧ w'.cell? ⟨Z, 2, none⟩ = some (.string ⟨#[]⟩) ∧ w'.cell? ⟨Z, 3, none⟩ = some (.string (tx (cs.drop (m + k)))) ∧ w'.cell? ⟨Z, 4, none⟩ = some (.bool false) ∧ w'.cell? ⟨Z, 5, none⟩ = some (.int .i64 0) ∧ w'.cell? ⟨Z, 6, none⟩ = some (.int .i64 0) ∧ w'.cell? ⟨Z, 7, none⟩ = some (.int .i64 0) ∧ w'.cell? ⟨Z, 8, none⟩ = some (.slice none 0 0) from fun w' h => ⟨(HPVc.out.later h).cell 0, (HPVc.out.later h).cell 1, (HPVc.out.later h).cell 2, (HPVc.out.later h).cell 3, (HPVc.out.later h).cell 4, (HPVc.out.later h).cell 5, (HPVc.out.later h).cell 6, (HPVc.out.later h).cell 7, (HPVc.out.later h).cell 8, (HPX.out.later h).cell 0, (HPX.out.later h).cell 1, (HPX.out.later h).cell 2, (HPX.out.later h).cell 3, (HPX.out.later h).cell 4, (HPX.out.later h).cell 5, (HPX.out.later h).cell 6, (HPX.out.later h).cell 7, (HPX.out.later h).cell 8, (HPY.out.later h).cell 0, (HPY.out.later h).cell 1, (HPY.out.later h).cell 2, (HPY.out.later h).cell 3, (HPY.out.later h).cell 4, (HPY.out.later h).cell 5, (HPY.out.later h).cell 6, (HPY.out.later h).cell 7, (HPY.out.later h).cell 8, (HPZ.out.later h).cell 0, (HPZ.out.later h).cell 1, (HPZ.out.later h).cell 2, (HPZ.out.later h).cell 3, (HPZ.out.later h).cell 4, (HPZ.out.later h).cell 5, (HPZ.out.later h).cell 6, (HPZ.out.later h).cell 7, (HPZ.out.later h).cell 8⟩)
      have HCON := Lib.hid (show ∀ W A c, VEnv W → Reads 9 csV W (.slice A 3 c) [tV (tx (cs.take m)), tV (tx ((cs.drop m).take k)), tV (tx (cs.drop (m + k)))] → Calls Tryz.prog 8 #[.string ⟨#[67, 79, 78, 67, 65, 84]⟩, .slice A 3 c] W fun e w' => e = .returned (.agg #[.int .i64 2, .string ⟨#[]⟩, .string ⟨#[]⟩, .string (tx cs), .bool false, .int .i64 0, .int .i64 0, .int .i64 0, .slice none 0 0]) ∧ Below W.heap.size W w' from fun W A c hW hA => c_Con W A c _ _ _ (tx cs) (txtE_chs (HCS.out.1.take m) (Nat.le_trans (tx_take_le cs m) HCS.out.2)) (txtE_chs ((HCS.out.1.drop m).take k) (Nat.le_trans (tx_take_le (cs.drop m) k) (Nat.le_trans (tx_drop_le cs m) HCS.out.2))) (txtE_chs (HCS.out.1.drop (m + k)) (Nat.le_trans (tx_drop_le cs (m + k)) HCS.out.2)) (join3 cs m k) (txtE_chs HCS.out.1 HCS.out.2) hW hA)
      have HREP := Lib.hid (show ∀ W A c, VEnv W → Reads 9 csV W (.slice A 4 c) [tV (tx cs), nV (m + 1), nV k, tV (tx ((cs.drop m).take k))] → Calls Tryz.prog 8 #[.string ⟨#[82, 69, 80, 76, 65, 67, 69]⟩, .slice A 4 c] W fun e w' => e = .returned (.agg #[.int .i64 2, .string ⟨#[]⟩, .string ⟨#[]⟩, .string (tx cs), .bool false, .int .i64 0, .int .i64 0, .int .i64 0, .slice none 0 0]) ∧ Below W.heap.size W w' from fun W A c hW hA => c_Rep W A c cs HCS.out.1 HCS.out.2 m k HMK.out hW hA)
      have HLN2 := Lib.hid (show ∀ W A c, VEnv W → Reads 9 csV W (.slice A 1 c) [tV (tx ((cs.drop m).take k))] → Calls Tryz.prog 8 #[.string ⟨#[76, 69, 78]⟩, .slice A 1 c] W fun e w' => e = .returned (.agg #[.int .i64 1, .string (nt k), .string ⟨#[49]⟩, .string ⟨#[]⟩, .bool false, .int .i64 0, .int .i64 0, .int .i64 0, .slice none 0 0]) ∧ Below W.heap.size W w' from fun W A c hW hA => by
        have h := c_Len W A c ((cs.drop m).take k) ((HCS.out.1.drop m).take k) (Nat.le_trans (tx_take_le (cs.drop m) k) (Nat.le_trans (tx_drop_le cs m) HCS.out.2)) hW hA
        rw [mid_len cs m k HMK.out] at h
        exact h)
      have HEXA := Lib.hid (show ∀ W A c, VEnv W → Reads 9 csV W (.slice A 2 c) [tV (tx cs), tV (tx cs)] → Calls Tryz.prog 8 #[.string ⟨#[69, 88, 65, 67, 84]⟩, .slice A 2 c] W fun e w' => e = .returned (.agg #[.int .i64 3, .string ⟨#[]⟩, .string ⟨#[]⟩, .string ⟨#[]⟩, .bool true, .int .i64 0, .int .i64 0, .int .i64 0, .slice none 0 0]) ∧ Below W.heap.size W w' from fun W A c hW hA => c_Exa W A c cs HCS.out.1 HCS.out.2 hW hA)
      go_upto_region 11 with fail
      refine wp_region_G (S1 := fun w' => w'.cell? ⟨V, 0, none⟩ = some (.int .i64 2) ∧ w'.cell? ⟨V, 1, none⟩ = some (.string ⟨#[]⟩) ∧ w'.cell? ⟨V, 2, none⟩ = some (.string ⟨#[]⟩) ∧ w'.cell? ⟨V, 3, none⟩ = some (.string (tx cs)) ∧ w'.cell? ⟨V, 4, none⟩ = some (.bool false) ∧ w'.cell? ⟨V, 5, none⟩ = some (.int .i64 0) ∧ w'.cell? ⟨V, 6, none⟩ = some (.int .i64 0) ∧ w'.cell? ⟨V, 7, none⟩ = some (.int .i64 0) ∧ w'.cell? ⟨V, 8, none⟩ = some (.slice none 0 0) ∧ w'.cell? ⟨X, 0, none⟩ = some (.int .i64 2) ∧ w'.cell? ⟨X, 1, none⟩ = some (.string ⟨#[]⟩) ∧ w'.cell? ⟨X, 2, none⟩ = some (.string ⟨#[]⟩) ∧ w'.cell? ⟨X, 3, none⟩ = some (.string (tx (cs.take m))) ∧ w'.cell? ⟨X, 4, none⟩ = some (.bool false) ∧ w'.cell? ⟨X, 5, none⟩ = some (.int .i64 0) ∧ w'.cell? ⟨X, 6, none⟩ = some (.int .i64 0) ∧ w'.cell? ⟨X, 7, none⟩ = some (.int .i64 0) ∧ w'.cell? ⟨X, 8, none⟩ = some (.slice none 0 0) ∧ w'.cell? ⟨Y, 0, none⟩ = some (.int .i64 2) ∧ w'.cell? ⟨Y, 1, none⟩ = some (.string ⟨#[]⟩) ∧ w'.cell? ⟨Y, 2, none⟩ = some (.string ⟨#[]⟩) ∧ w'.cell? ⟨Y, 3, none⟩ = some (.string (tx ((cs.drop m).take k))) ∧ w'.cell? ⟨Y, 4, none⟩ = some (.bool false) ∧ w'.cell? ⟨Y, 5, none⟩ = some (.int .i64 0) ∧ w'.cell? ⟨Y, 6, none⟩ = some (.int .i64 0) ∧ w'.cell? ⟨Y, 7, none⟩ = some (.int .i64 0) ∧ w'.cell? ⟨Y, 8, none⟩ = some (.slice none 0 0) ∧ w'.cell? ⟨Z, 0, none⟩ = some (.int .i64 2) ∧ w'.cell? ⟨Z, 1, none⟩ = some (.string ⟨#[]⟩) ∧ w'.cell? ⟨Z, 2, none⟩ = some (.string ⟨#[]⟩) ∧ w'.cell? ⟨Z, 3, none⟩ = some (.string (tx (cs.drop (m + k)))) ∧ w'.cell? ⟨Z, 4, none⟩ = some (.bool false) ∧ w'.cell? ⟨Z, 5, none⟩ = some (.int .i64 0) ∧ w'.cell? ⟨Z, 6, none⟩ = some (.int .i64 0) ∧ w'.cell? ⟨Z, 7, none⟩ = some (.int .i64 0) ∧ w'.cell? ⟨Z, 8, none⟩ = some (.slice none 0 0)) (S2 := fun _ => True) (d := 99) (by kernel_rfl) (HSS.out _ (Below.refl _ wc).drew) trivial (fun hT => ?_)
      refine wpAnyG_take1d (i := 0) (v := ?_) rfl rfl (by kernel_rfl) (by kernel_rfl) (by kernel_rfl) (by kernel_rfl) (fun _ _ _ h => h) (Or.inl ⟨by rfl, ?_⟩) (by assumption) (fun hT => ?_)
      rotate_left
      · intro w hSw
        (try dsimp only at hSw)
        go_simp
        (try with_reducible rfl)
      (try simp only [Act.put, List.setIfInBounds_toArray, List.set_cons_zero, List.set_cons_succ])
      refine wpAnyG_take1d (i := 1) (v := ?_) rfl rfl (by kernel_rfl) (by kernel_rfl) (by kernel_rfl) (by kernel_rfl) (fun _ _ _ h => h) (Or.inl ⟨by rfl, ?_⟩) (by assumption) (fun hT => ?_)
      rotate_left
      · intro w hSw
        (try dsimp only at hSw)
        go_simp
        (try with_reducible rfl)
      (try simp only [Act.put, List.setIfInBounds_toArray, List.set_cons_zero, List.set_cons_succ])
      refine wpAnyG_take1d (i := 2) (v := ?_) rfl rfl (by kernel_rfl) (by kernel_rfl) (by kernel_rfl) (by kernel_rfl) (fun _ _ _ h => h) (Or.inl ⟨by rfl, ?_⟩) (by assumption) (fun hT => ?_)
      rotate_left
      · intro w hSw
        (try dsimp only at hSw)
        go_simp
        (try with_reducible rfl)
      (try simp only [Act.put, List.setIfInBounds_toArray, List.set_cons_zero, List.set_cons_succ])
      refine wpAnyG_take1d (i := 5) (v := ?_) rfl rfl (by kernel_rfl) (by kernel_rfl) (by kernel_rfl) (by kernel_rfl) (fun _ _ _ h => h) (Or.inl ⟨by rfl, ?_⟩) (by assumption) (fun hT => ?_)
      rotate_left
      · intro w hSw
        (try dsimp only at hSw)
        go_simp
        (try with_reducible rfl)
      (try simp only [Act.put, List.setIfInBounds_toArray, List.set_cons_zero, List.set_cons_succ])
      refine wpAnyG_ready (rs := [3]) (by kernel_rfl) (by simp) ?_
      refine AllG.cons (i := 3) rfl (fun K hK => ?_) AllG.nil
      go_simp
      refine gen_w ?_
      intro b3 hwa
      have HSb3 := Lib.hid (show Below wc.heap.size wc b3 from by rw [hwa]; first | exact below_al wc _ | exact (below_al wc _).drew)
      have HBb3 := Lib.hid (show Reads 9 csV b3 (.slice (some ⟨wc.heap.size, 0, none⟩) 3 3) [tV (tx (cs.take m)), tV (tx ((cs.drop m).take k)), tV (tx (cs.drop (m + k)))] from by rw [hwa]; exact reads_newN wc _ [tV (tx (cs.take m)), tV (tx ((cs.drop m).take k)), tV (tx (cs.drop (m + k)))] rfl)
      clear hwa
      refine hK.out _ _ ⟨HSS.out _ HSb3.out, .inr trivial⟩ (fun hT => ?_)
      clear hK K
      (try simp only [Act.put, List.setIfInBounds_toArray, List.set_cons_zero, List.set_cons_succ])
      refine wpAnyG_ready (rs := [4]) (by kernel_rfl) (by simp) ?_
      refine AllG.cons (i := 4) rfl (fun K hK => ?_) AllG.nil
      go_simp
      go_at_call 8
      (with_reducible refine (HCON.out _ _ _ (HCT.out _ HSb3.out) (HBb3.out.below (Below.refl _ b3))).mono ?_)
      rintro e b4 ⟨rfl, hb⟩
      have HSb4 := Lib.hid (show Below b3.heap.size b3 b4 from by first | exact hb | exact (Below.refl _ b3).drew.trans hb)
      clear hb
      refine hK.out _ _ ⟨HSS.out _ (below_tr HSb3.out HSb4.out), .inr trivial⟩ (fun hT => ?_)
      clear hK K
      (try simp only [Act.put, List.setIfInBounds_toArray, List.set_cons_zero, List.set_cons_succ])
      refine wpAnyG_ready (rs := [6]) (by kernel_rfl) (by simp) ?_
      refine AllG.cons (i := 6) rfl (fun K hK => ?_) AllG.nil
      go_simp
      go_at_call 12
      (with_reducible refine (same_t (tx cs) _).mono ?_)
      rintro e b6 ⟨rfl, hb⟩
      have HSb6 := Lib.hid (show Below b4.heap.size b4 b6 from by first | exact hb | exact (Below.refl _ b4).drew.trans hb)
      clear hb
      refine hK.out _ _ ⟨HSS.out _ (below_tr (below_tr HSb3.out HSb4.out) HSb6.out), .inr trivial⟩ (fun hT => ?_)
      clear hK K
      (try simp only [Act.put, List.setIfInBounds_toArray, List.set_cons_zero, List.set_cons_succ])
      refine wpAnyG_take1d (i := 7) (v := ?_) rfl rfl (by kernel_rfl) (by kernel_rfl) (by kernel_rfl) (by kernel_rfl) (fun _ _ _ h => h) (Or.inl ⟨by rfl, ?_⟩) (by assumption) (fun hT => ?_)
      rotate_left
      · intro w hSw
        (try dsimp only at hSw)
        go_simp
        (try with_reducible rfl)
      (try simp only [Act.put, List.setIfInBounds_toArray, List.set_cons_zero, List.set_cons_succ])
      refine wpAnyG_take1d (i := 8) (v := ?_) rfl rfl (by kernel_rfl) (by kernel_rfl) (by kernel_rfl) (by kernel_rfl) (fun _ _ _ h => h) (Or.inl ⟨by rfl, ?_⟩) (by assumption) (fun hT => ?_)
      rotate_left
      · intro w hSw
        (try dsimp only at hSw)
        go_simp
        (try with_reducible rfl)
      (try simp only [Act.put, List.setIfInBounds_toArray, List.set_cons_zero, List.set_cons_succ])
      refine wpAnyG_take1d (i := 9) (v := ?_) rfl rfl (by kernel_rfl) (by kernel_rfl) (by kernel_rfl) (by kernel_rfl) (fun _ _ _ h => h) (Or.inl ⟨by rfl, ?_⟩) (by assumption) (fun hT => ?_)
      rotate_left
      · intro w hSw
        (try dsimp only at hSw)
        go_simp
        (try with_reducible rfl)
      (try simp only [Act.put, List.setIfInBounds_toArray, List.set_cons_zero, List.set_cons_succ])
      refine wpAnyG_take1d (i := 10) (v := ?_) rfl rfl (by kernel_rfl) (by kernel_rfl) (by kernel_rfl) (by kernel_rfl) (fun _ _ _ h => h) (Or.inl ⟨by rfl, ?_⟩) (by assumption) (fun hT => ?_)
      rotate_left
      · intro w hSw
        (try dsimp only at hSw)
        go_simp
        (try with_reducible rfl)
      (try simp only [Act.put, List.setIfInBounds_toArray, List.set_cons_zero, List.set_cons_succ])
      refine wpAnyG_take1d (i := 12) (v := ?_) rfl rfl (by kernel_rfl) (by kernel_rfl) (by kernel_rfl) (by kernel_rfl) (fun _ _ _ h => h) (Or.inl ⟨by rfl, ?_⟩) (by assumption) (fun hT => ?_)
      rotate_left
      · intro w hSw
        (try dsimp only at hSw)
        go_simp
        (try with_reducible rfl)
      (try simp only [Act.put, List.setIfInBounds_toArray, List.set_cons_zero, List.set_cons_succ])
      refine wpAnyG_take1d (i := 14) (v := ?_) rfl rfl (by kernel_rfl) (by kernel_rfl) (by kernel_rfl) (by kernel_rfl) (fun _ _ _ h => h) (Or.inl ⟨by rfl, ?_⟩) (by assumption) (fun hT => ?_)
      rotate_left
      · intro w hSw
        (try dsimp only at hSw)
        go_simp
        (try with_reducible rfl)
      (try simp only [Act.put, List.setIfInBounds_toArray, List.set_cons_zero, List.set_cons_succ])
      refine wpAnyG_take1d (i := 17) (v := ?_) rfl rfl (by kernel_rfl) (by kernel_rfl) (by kernel_rfl) (by kernel_rfl) (fun _ _ _ h => h) (Or.inl ⟨by rfl, ?_⟩) (by assumption) (fun hT => ?_)
      rotate_left
      · intro w hSw
        (try dsimp only at hSw)
        go_simp
        (try with_reducible rfl)
      (try simp only [Act.put, List.setIfInBounds_toArray, List.set_cons_zero, List.set_cons_succ])
      refine wpAnyG_ready (rs := [11]) (by kernel_rfl) (by simp) ?_
      refine AllG.cons (i := 11) rfl (fun K hK => ?_) AllG.nil
      go_simp
      go_at_call 11
      (with_reducible refine (whole_x _ (m + 1) _ (HCT.out _ (below_tr (below_tr HSb3.out HSb4.out) HSb6.out)) ?_ (by omega)).mono ?_)
      · first | rfl | omega | (rw [IntWalk.i64_in _ (by omega)]; omega)
      rintro e b11 ⟨rfl, hb⟩
      have HSb11 := Lib.hid (show Below b6.heap.size b6 b11 from by first | exact hb | exact (Below.refl _ b6).drew.trans hb)
      clear hb
      refine hK.out _ _ ⟨HSS.out _ (below_tr (below_tr (below_tr HSb3.out HSb4.out) HSb6.out) HSb11.out), .inr trivial⟩ (fun hT => ?_)
      clear hK K
      (try simp only [Act.put, List.setIfInBounds_toArray, List.set_cons_zero, List.set_cons_succ])
      refine wpAnyG_ready (rs := [13]) (by kernel_rfl) (by simp) ?_
      refine AllG.cons (i := 13) rfl (fun K hK => ?_) AllG.nil
      go_simp
      go_at_call 11
      (with_reducible refine (whole_x _ k _ (HCT.out _ (below_tr (below_tr (below_tr HSb3.out HSb4.out) HSb6.out) HSb11.out)) ?_ (by omega)).mono ?_)
      · first | rfl | omega | (rw [IntWalk.i64_in _ (by omega)]; omega)
      rintro e b13 ⟨rfl, hb⟩
      have HSb13 := Lib.hid (show Below b11.heap.size b11 b13 from by first | exact hb | exact (Below.refl _ b11).drew.trans hb)
      clear hb
      refine hK.out _ _ ⟨HSS.out _ (below_tr (below_tr (below_tr (below_tr HSb3.out HSb4.out) HSb6.out) HSb11.out) HSb13.out), .inr trivial⟩ (fun hT => ?_)
      clear hK K
      (try simp only [Act.put, List.setIfInBounds_toArray, List.set_cons_zero, List.set_cons_succ])
      refine wpAnyG_ready (rs := [15]) (by kernel_rfl) (by simp) ?_
      refine AllG.cons (i := 15) rfl (fun K hK => ?_) AllG.nil
      go_simp
      refine gen_w ?_
      intro b15 hwa
      have HSb15 := Lib.hid (show Below b13.heap.size b13 b15 from by rw [hwa]; first | exact below_al b13 _ | exact (below_al b13 _).drew)
      have HBb15 := Lib.hid (show Reads 9 csV b15 (.slice (some ⟨b13.heap.size, 0, none⟩) 4 4) [tV (tx cs), nV (m + 1), nV k, tV (tx ((cs.drop m).take k))] from by rw [hwa]; exact reads_newN b13 _ [tV (tx cs), nV (m + 1), nV k, tV (tx ((cs.drop m).take k))] rfl)
      clear hwa
      refine hK.out _ _ ⟨HSS.out _ (below_tr (below_tr (below_tr (below_tr (below_tr HSb3.out HSb4.out) HSb6.out) HSb11.out) HSb13.out) HSb15.out), .inr trivial⟩ (fun hT => ?_)
      clear hK K
      (try simp only [Act.put, List.setIfInBounds_toArray, List.set_cons_zero, List.set_cons_succ])
      refine wpAnyG_ready (rs := [16]) (by kernel_rfl) (by simp) ?_
      refine AllG.cons (i := 16) rfl (fun K hK => ?_) AllG.nil
      go_simp
      go_at_call 8
      (with_reducible refine (HREP.out _ _ _ (HCT.out _ (below_tr (below_tr (below_tr (below_tr (below_tr HSb3.out HSb4.out) HSb6.out) HSb11.out) HSb13.out) HSb15.out)) (HBb15.out.below (Below.refl _ b15))).mono ?_)
      rintro e b16 ⟨rfl, hb⟩
      have HSb16 := Lib.hid (show Below b15.heap.size b15 b16 from by first | exact hb | exact (Below.refl _ b15).drew.trans hb)
      clear hb
      refine hK.out _ _ ⟨HSS.out _ (below_tr (below_tr (below_tr (below_tr (below_tr (below_tr HSb3.out HSb4.out) HSb6.out) HSb11.out) HSb13.out) HSb15.out) HSb16.out), .inr trivial⟩ (fun hT => ?_)
      clear hK K
      (try simp only [Act.put, List.setIfInBounds_toArray, List.set_cons_zero, List.set_cons_succ])
      refine wpAnyG_ready (rs := [18]) (by kernel_rfl) (by simp) ?_
      refine AllG.cons (i := 18) rfl (fun K hK => ?_) AllG.nil
      go_simp
      go_at_call 12
      (with_reducible refine (same_t (tx cs) _).mono ?_)
      rintro e b18 ⟨rfl, hb⟩
      have HSb18 := Lib.hid (show Below b16.heap.size b16 b18 from by first | exact hb | exact (Below.refl _ b16).drew.trans hb)
      clear hb
      refine hK.out _ _ ⟨HSS.out _ (below_tr (below_tr (below_tr (below_tr (below_tr (below_tr (below_tr HSb3.out HSb4.out) HSb6.out) HSb11.out) HSb13.out) HSb15.out) HSb16.out) HSb18.out), .inr trivial⟩ (fun hT => ?_)
      clear hK K
      (try simp only [Act.put, List.setIfInBounds_toArray, List.set_cons_zero, List.set_cons_succ])
      refine wpAnyG_take1d (i := 19) (v := ?_) rfl rfl (by kernel_rfl) (by kernel_rfl) (by kernel_rfl) (by kernel_rfl) (fun _ _ _ h => h) (Or.inl ⟨by rfl, ?_⟩) (by assumption) (fun hT => ?_)
      rotate_left
      · intro w hSw
        (try dsimp only at hSw)
        go_simp
        (try with_reducible rfl)
      (try simp only [Act.put, List.setIfInBounds_toArray, List.set_cons_zero, List.set_cons_succ])
      refine wpAnyG_take1d (i := 20) (v := ?_) rfl rfl (by kernel_rfl) (by kernel_rfl) (by kernel_rfl) (by kernel_rfl) (fun _ _ _ h => h) (Or.inl ⟨by rfl, ?_⟩) (by assumption) (fun hT => ?_)
      rotate_left
      · intro w hSw
        (try dsimp only at hSw)
        go_simp
        (try with_reducible rfl)
      (try simp only [Act.put, List.setIfInBounds_toArray, List.set_cons_zero, List.set_cons_succ])
      refine wpAnyG_take1d (i := 21) (v := ?_) rfl rfl (by kernel_rfl) (by kernel_rfl) (by kernel_rfl) (by kernel_rfl) (fun _ _ _ h => h) (Or.inl ⟨by rfl, ?_⟩) (by assumption) (fun hT => ?_)
      rotate_left
      · intro w hSw
        (try dsimp only at hSw)
        go_simp
        (try with_reducible rfl)
      (try simp only [Act.put, List.setIfInBounds_toArray, List.set_cons_zero, List.set_cons_succ])
      refine wpAnyG_take1d (i := 24) (v := ?_) rfl rfl (by kernel_rfl) (by kernel_rfl) (by kernel_rfl) (by kernel_rfl) (fun _ _ _ h => h) (Or.inl ⟨by rfl, ?_⟩) (by assumption) (fun hT => ?_)
      rotate_left
      · intro w hSw
        (try dsimp only at hSw)
        go_simp
        (try with_reducible rfl)
      (try simp only [Act.put, List.setIfInBounds_toArray, List.set_cons_zero, List.set_cons_succ])
      refine wpAnyG_ready (rs := [22]) (by kernel_rfl) (by simp) ?_
      refine AllG.cons (i := 22) rfl (fun K hK => ?_) AllG.nil
      go_simp
      refine gen_w ?_
      intro b22 hwa
      have HSb22 := Lib.hid (show Below b18.heap.size b18 b22 from by rw [hwa]; first | exact below_al b18 _ | exact (below_al b18 _).drew)
      have HBb22 := Lib.hid (show Reads 9 csV b22 (.slice (some ⟨b18.heap.size, 0, none⟩) 1 1) [tV (tx ((cs.drop m).take k))] from by rw [hwa]; exact reads_newN b18 _ [tV (tx ((cs.drop m).take k))] rfl)
      clear hwa
      refine hK.out _ _ ⟨HSS.out _ (below_tr (below_tr (below_tr (below_tr (below_tr (below_tr (below_tr (below_tr HSb3.out HSb4.out) HSb6.out) HSb11.out) HSb13.out) HSb15.out) HSb16.out) HSb18.out) HSb22.out), .inr trivial⟩ (fun hT => ?_)
      clear hK K
      (try simp only [Act.put, List.setIfInBounds_toArray, List.set_cons_zero, List.set_cons_succ])
      refine wpAnyG_ready (rs := [23]) (by kernel_rfl) (by simp) ?_
      refine AllG.cons (i := 23) rfl (fun K hK => ?_) AllG.nil
      go_simp
      go_at_call 8
      (with_reducible refine (HLN2.out _ _ _ (HCT.out _ (below_tr (below_tr (below_tr (below_tr (below_tr (below_tr (below_tr (below_tr HSb3.out HSb4.out) HSb6.out) HSb11.out) HSb13.out) HSb15.out) HSb16.out) HSb18.out) HSb22.out)) (HBb22.out.below (Below.refl _ b22))).mono ?_)
      rintro e b23 ⟨rfl, hb⟩
      have HSb23 := Lib.hid (show Below b22.heap.size b22 b23 from by first | exact hb | exact (Below.refl _ b22).drew.trans hb)
      clear hb
      refine hK.out _ _ ⟨HSS.out _ (below_tr (below_tr (below_tr (below_tr (below_tr (below_tr (below_tr (below_tr (below_tr HSb3.out HSb4.out) HSb6.out) HSb11.out) HSb13.out) HSb15.out) HSb16.out) HSb18.out) HSb22.out) HSb23.out), .inr trivial⟩ (fun hT => ?_)
      clear hK K
      (try simp only [Act.put, List.setIfInBounds_toArray, List.set_cons_zero, List.set_cons_succ])
      refine wpAnyG_ready (rs := [25]) (by kernel_rfl) (by simp) ?_
      refine AllG.cons (i := 25) rfl (fun K hK => ?_) AllG.nil
      go_simp
      go_at_call 11
      (with_reducible refine (whole_x _ k _ (HCT.out _ (below_tr (below_tr (below_tr (below_tr (below_tr (below_tr (below_tr (below_tr (below_tr HSb3.out HSb4.out) HSb6.out) HSb11.out) HSb13.out) HSb15.out) HSb16.out) HSb18.out) HSb22.out) HSb23.out)) ?_ (by omega)).mono ?_)
      · first | rfl | omega | (rw [IntWalk.i64_in _ (by omega)]; omega)
      rintro e b25 ⟨rfl, hb⟩
      have HSb25 := Lib.hid (show Below b23.heap.size b23 b25 from by first | exact hb | exact (Below.refl _ b23).drew.trans hb)
      clear hb
      refine hK.out _ _ ⟨HSS.out _ (below_tr (below_tr (below_tr (below_tr (below_tr (below_tr (below_tr (below_tr (below_tr (below_tr HSb3.out HSb4.out) HSb6.out) HSb11.out) HSb13.out) HSb15.out) HSb16.out) HSb18.out) HSb22.out) HSb23.out) HSb25.out), .inr trivial⟩ (fun hT => ?_)
      clear hK K
      (try simp only [Act.put, List.setIfInBounds_toArray, List.set_cons_zero, List.set_cons_succ])
      refine wpAnyG_ready (rs := [26]) (by kernel_rfl) (by simp) ?_
      refine AllG.cons (i := 26) rfl (fun K hK => ?_) AllG.nil
      go_simp
      go_at_call 12
      (with_reducible refine (same_n k _).mono ?_)
      rintro e b26 ⟨rfl, hb⟩
      have HSb26 := Lib.hid (show Below b25.heap.size b25 b26 from by first | exact hb | exact (Below.refl _ b25).drew.trans hb)
      clear hb
      refine hK.out _ _ ⟨HSS.out _ (below_tr (below_tr (below_tr (below_tr (below_tr (below_tr (below_tr (below_tr (below_tr (below_tr (below_tr HSb3.out HSb4.out) HSb6.out) HSb11.out) HSb13.out) HSb15.out) HSb16.out) HSb18.out) HSb22.out) HSb23.out) HSb25.out) HSb26.out), .inr trivial⟩ (fun hT => ?_)
      clear hK K
      (try simp only [Act.put, List.setIfInBounds_toArray, List.set_cons_zero, List.set_cons_succ])
      refine wpAnyG_take1d (i := 27) (v := ?_) rfl rfl (by kernel_rfl) (by kernel_rfl) (by kernel_rfl) (by kernel_rfl) (fun _ _ _ h => h) (Or.inl ⟨by rfl, ?_⟩) (by assumption) (fun hT => ?_)
      rotate_left
      · intro w hSw
        (try dsimp only at hSw)
        go_simp
        (try with_reducible rfl)
      (try simp only [Act.put, List.setIfInBounds_toArray, List.set_cons_zero, List.set_cons_succ])
      refine wpAnyG_take1d (i := 28) (v := ?_) rfl rfl (by kernel_rfl) (by kernel_rfl) (by kernel_rfl) (by kernel_rfl) (fun _ _ _ h => h) (Or.inl ⟨by rfl, ?_⟩) (by assumption) (fun hT => ?_)
      rotate_left
      · intro w hSw
        (try dsimp only at hSw)
        go_simp
        (try with_reducible rfl)
      (try simp only [Act.put, List.setIfInBounds_toArray, List.set_cons_zero, List.set_cons_succ])
      refine wpAnyG_take1d (i := 29) (v := ?_) rfl rfl (by kernel_rfl) (by kernel_rfl) (by kernel_rfl) (by kernel_rfl) (fun _ _ _ h => h) (Or.inl ⟨by rfl, ?_⟩) (by assumption) (fun hT => ?_)
      rotate_left
      · intro w hSw
        (try dsimp only at hSw)
        go_simp
        (try with_reducible rfl)
      (try simp only [Act.put, List.setIfInBounds_toArray, List.set_cons_zero, List.set_cons_succ])
      refine wpAnyG_take1d (i := 30) (v := ?_) rfl rfl (by kernel_rfl) (by kernel_rfl) (by kernel_rfl) (by kernel_rfl) (fun _ _ _ h => h) (Or.inl ⟨by rfl, ?_⟩) (by assumption) (fun hT => ?_)
      rotate_left
      · intro w hSw
        (try dsimp only at hSw)
        go_simp
        (try with_reducible rfl)
      (try simp only [Act.put, List.setIfInBounds_toArray, List.set_cons_zero, List.set_cons_succ])
      refine wpAnyG_ready (rs := [31]) (by kernel_rfl) (by simp) ?_
      refine AllG.cons (i := 31) rfl (fun K hK => ?_) AllG.nil
      go_simp
      refine gen_w ?_
      intro b31 hwa
      have HSb31 := Lib.hid (show Below b26.heap.size b26 b31 from by rw [hwa]; first | exact below_al b26 _ | exact (below_al b26 _).drew)
      have HBb31 := Lib.hid (show Reads 9 csV b31 (.slice (some ⟨b26.heap.size, 0, none⟩) 2 2) [tV (tx cs), tV (tx cs)] from by rw [hwa]; exact reads_newN b26 _ [tV (tx cs), tV (tx cs)] rfl)
      clear hwa
      refine hK.out _ _ ⟨HSS.out _ (below_tr (below_tr (below_tr (below_tr (below_tr (below_tr (below_tr (below_tr (below_tr (below_tr (below_tr (below_tr HSb3.out HSb4.out) HSb6.out) HSb11.out) HSb13.out) HSb15.out) HSb16.out) HSb18.out) HSb22.out) HSb23.out) HSb25.out) HSb26.out) HSb31.out), .inr trivial⟩ (fun hT => ?_)
      clear hK K
      (try simp only [Act.put, List.setIfInBounds_toArray, List.set_cons_zero, List.set_cons_succ])
      refine wpAnyG_ready (rs := [32]) (by kernel_rfl) (by simp) ?_
      refine AllG.cons (i := 32) rfl (fun K hK => ?_) AllG.nil
      go_simp
      go_at_call 8
      (with_reducible refine (HEXA.out _ _ _ (HCT.out _ (below_tr (below_tr (below_tr (below_tr (below_tr (below_tr (below_tr (below_tr (below_tr (below_tr (below_tr (below_tr HSb3.out HSb4.out) HSb6.out) HSb11.out) HSb13.out) HSb15.out) HSb16.out) HSb18.out) HSb22.out) HSb23.out) HSb25.out) HSb26.out) HSb31.out)) (HBb31.out.below (Below.refl _ b31))).mono ?_)
      rintro e b32 ⟨rfl, hb⟩
      have HSb32 := Lib.hid (show Below b31.heap.size b31 b32 from by first | exact hb | exact (Below.refl _ b31).drew.trans hb)
      clear hb
      refine hK.out _ _ ⟨HSS.out _ (below_tr (below_tr (below_tr (below_tr (below_tr (below_tr (below_tr (below_tr (below_tr (below_tr (below_tr (below_tr (below_tr HSb3.out HSb4.out) HSb6.out) HSb11.out) HSb13.out) HSb15.out) HSb16.out) HSb18.out) HSb22.out) HSb23.out) HSb25.out) HSb26.out) HSb31.out) HSb32.out), .inr trivial⟩ (fun hT => ?_)
      clear hK K
      (try simp only [Act.put, List.setIfInBounds_toArray, List.set_cons_zero, List.set_cons_succ])
      refine wpAnyG_take1d (i := 33) (v := .bool true) rfl rfl (by kernel_rfl) (by kernel_rfl) (by kernel_rfl) (by kernel_rfl) (fun _ _ _ h => h) (Or.inl ⟨by rfl, ?_⟩) (by assumption) (fun hT => ?_)
      · intro w hSw
        (try dsimp only at hSw)
        go_simp
        first | (with_reducible rfl) | rfl | kernel_rfl
      (try simp only [Act.put, List.setIfInBounds_toArray, List.set_cons_zero, List.set_cons_succ])
      refine wpAnyG_take1d (i := 34) (v := ?_) rfl rfl (by kernel_rfl) (by kernel_rfl) (by kernel_rfl) (by kernel_rfl) (fun _ _ _ h => h) (Or.inl ⟨by rfl, ?_⟩) (by assumption) (fun hT => ?_)
      rotate_left
      · intro w hSw
        (try dsimp only at hSw)
        go_simp
        (try with_reducible rfl)
      (try simp only [Act.put, List.setIfInBounds_toArray, List.set_cons_zero, List.set_cons_succ])
      refine wpAnyG_take1d (i := 35) (v := ?_) rfl rfl (by kernel_rfl) (by kernel_rfl) (by kernel_rfl) (by kernel_rfl) (fun _ _ _ h => h) (Or.inl ⟨by rfl, ?_⟩) (by assumption) (fun hT => ?_)
      rotate_left
      · intro w hSw
        (try dsimp only at hSw)
        go_simp
        (try with_reducible rfl)
      (try simp only [Act.put, List.setIfInBounds_toArray, List.set_cons_zero, List.set_cons_succ])
      refine wpAnyG_done (by kernel_rfl) ?_ _
      clear hT
      go_wp2_with fail
      go_ret
      exact ⟨rfl, HBW.out.trans ((below_tr (below_tr (below_tr (below_tr (below_tr (below_tr (below_tr (below_tr (below_tr (below_tr (below_tr (below_tr (below_tr HSb3.out HSb4.out) HSb6.out) HSb11.out) HSb13.out) HSb15.out) HSb16.out) HSb18.out) HSb22.out) HSb23.out) HSb25.out) HSb26.out) HSb31.out) HSb32.out).mono HBW.out.size)⟩
end Go.Proofs.YtcnlonaighlmbaaGreatDoor
