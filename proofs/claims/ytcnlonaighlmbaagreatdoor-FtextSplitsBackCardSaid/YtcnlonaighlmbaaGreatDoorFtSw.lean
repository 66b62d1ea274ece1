/- FtextSplitsBack: the law's walk. -/
import Derived.Test.YtcnlonaighlmbaaGreatDoorFtSf
import Derived.Test.YtcnlonaighlmbaaGreatDoorFtH
set_option linter.unusedSimpArgs false
set_option linter.unusedVariables false
namespace Go.Proofs.YtcnlonaighlmbaaGreatDoor
open Go.RowKit

theorem txtv_any (s : ByteArray) (W : World) (he : VEnv W) (hs : s.size ≤ 9223372036854775807) : Calls Tryz.prog 7 #[.string s] W fun e w' => ∃ (k0 : Int) (t0 : ByteArray) (c0 : Int), e = .returned (.agg #[.int .i64 k0, .string ⟨#[]⟩, .string ⟨#[]⟩, .string t0, .bool false, .int .i64 c0, .int .i64 0, .int .i64 0, .slice none 0 0]) ∧ ((k0 = 2 ∧ t0 = s ∧ c0 = 0 ∧ txtE s = 0) ∨ (k0 = 4 ∧ ¬ txtE s = 0)) ∧ Below W.heap.size W w' := by
  by_cases h : txtE s = 0
  · exact (text_t s W he h hs).mono fun e w' g => ⟨2, s, 0, g.1, .inl ⟨rfl, rfl, rfl, h⟩, g.2⟩
  · exact (text_f s W he h hs).mono fun e w' g => ⟨4, ⟨#[]⟩, 2, g.1, .inr ⟨rfl, h⟩, g.2⟩
theorem tx_ne {ds : List (List UInt8)} (h : ¬ (tx ds).toList = []) : ds ≠ [] := fun e => h (by rw [e, Lib.toList_data, tx_data]; rfl)
set_option maxRecDepth 100000 in
set_option maxHeartbeats 40000000 in
theorem fsplits_w (s t u : ByteArray) (w : World) (he : VEnv w) (hs : s.size ≤ 9223372036854775807) (ht : t.size ≤ 9223372036854775807) (hu : u.size ≤ 9223372036854775807) :
    Calls Tryz.prog 4 #[.string s, .string t, .string u] w fun e w' => e = .returned (.bool true) ∧ Below w.heap.size w w' := by
  obtain ⟨vs, vt, hvs, hvt, hv0, hv1, hv⟩ : ∃ vs vt, txtE vs = 0 ∧ txtE vt = 0 ∧ vs.size ≤ 300 ∧ ¬ vt.toList = [] ∧ ((txtE s = 0 ∧ txtE t = 0 ∧ ¬ t.toList = [] ∧ s.size ≤ 300 ∧ vs = s ∧ vt = t) ∨ (¬ (txtE s = 0 ∧ txtE t = 0 ∧ ¬ t.toList = [] ∧ s.size ≤ 300) ∧ vs = ⟨#[97, 45, 98]⟩ ∧ vt = ⟨#[45]⟩)) := by
    by_cases h : txtE s = 0 ∧ txtE t = 0 ∧ ¬ t.toList = [] ∧ s.size ≤ 300
    · exact ⟨s, t, h.1, h.2.1, h.2.2.2, h.2.2.1, .inl ⟨h.1, h.2.1, h.2.2.1, h.2.2.2, rfl, rfl⟩⟩
    · exact ⟨⟨#[97, 45, 98]⟩, ⟨#[45]⟩, by decide +kernel, by decide +kernel, by decide, by decide +kernel, .inr ⟨h, rfl, rfl⟩⟩
  obtain ⟨vu, hvu, hv2, hx⟩ : ∃ vu, txtE vu = 0 ∧ vu.size ≤ 20 ∧ ((txtE u = 0 ∧ u.size ≤ 20 ∧ vu = u) ∨ (¬ (txtE u = 0 ∧ u.size ≤ 20) ∧ vu = ⟨#[43]⟩)) := by
    by_cases h : txtE u = 0 ∧ u.size ≤ 20
    · exact ⟨u, h.1, h.2, .inl ⟨h.1, h.2, rfl⟩⟩
    · exact ⟨⟨#[43]⟩, by decide +kernel, by decide, .inr ⟨h, rfl⟩⟩
  obtain ⟨cs, hcs, rfl, -⟩ := chs_txtE hvs
  obtain ⟨ds, hds, rfl, hsd⟩ := chs_txtE hvt
  obtain ⟨es, hes, rfl, -⟩ := chs_txtE hvu
  have hne := tx_ne hv1
  have HT1 := Lib.hid fun W (hW : Below w.heap.size w W) => txtv_any s W (he.below hW) hs
  have HT2 := Lib.hid fun W (hW : Below w.heap.size w W) => txtv_any t W (he.below hW) ht
  have HT3 := Lib.hid fun W (hW : Below w.heap.size w W) => txtv_any u W (he.below hW) hu
  have HTA := Lib.hid (show ∀ W, Below w.heap.size w W → tx cs = ⟨#[97, 45, 98]⟩ → Calls Tryz.prog 7 #[.string ⟨#[97, 45, 98]⟩] W fun e w' => e = .returned (.agg #[.int .i64 2, .string ⟨#[]⟩, .string ⟨#[]⟩, .string (tx cs), .bool false, .int .i64 0, .int .i64 0, .int .i64 0, .slice none 0 0]) ∧ Below W.heap.size W w' from fun W hW h => by
    rw [h]
    exact text_t ⟨#[97, 45, 98]⟩ W (he.below hW) (by decide +kernel) (by decide))
  have HTD := Lib.hid (show ∀ W, Below w.heap.size w W → tx ds = ⟨#[45]⟩ → Calls Tryz.prog 7 #[.string ⟨#[45]⟩] W fun e w' => e = .returned (.agg #[.int .i64 2, .string ⟨#[]⟩, .string ⟨#[]⟩, .string (tx ds), .bool false, .int .i64 0, .int .i64 0, .int .i64 0, .slice none 0 0]) ∧ Below W.heap.size W w' from fun W hW h => by
    rw [h]
    exact text_t ⟨#[45]⟩ W (he.below hW) (by decide +kernel) (by decide))
  have HTP := Lib.hid (show ∀ W, Below w.heap.size w W → tx es = ⟨#[43]⟩ → Calls Tryz.prog 7 #[.string ⟨#[43]⟩] W fun e w' => e = .returned (.agg #[.int .i64 2, .string ⟨#[]⟩, .string ⟨#[]⟩, .string (tx es), .bool false, .int .i64 0, .int .i64 0, .int .i64 0, .slice none 0 0]) ∧ Below W.heap.size W w' from fun W hW h => by
    rw [h]
    exact text_t ⟨#[43]⟩ W (he.below hW) (by decide +kernel) (by decide))
  have HE := Lib.hid he
  have HV := Lib.hid hv
  have HX := Lib.hid hx
  have hjn := jn_ok hcs hds hne hes hv0 hv2
  have HSPL := Lib.hid fun W A c (hW : VEnv W) hA => c_Spl W A c cs ds hcs hds hv0 hsd hne hW hA
  have HTJ := Lib.hid fun W A c sep u C (hsep : txtE sep = 0) (hu : AR W u 1 C ((pcs (tx cs) (tx ds)).map tV)) (s : ByteArray) (hs : jnT (pcs (tx cs) (tx ds)) sep = s) (hok : txtE s = 0) (hW : VEnv W) hA => c_Tj W A c sep u C (pcs (tx cs) (tx ds)) hsep hu (pcs_ok hcs hds hne (by omega)) s hs hok hW hA
  have HSUB := Lib.hid fun W A c (hW : VEnv W) hA => c_Sub W A c cs ds es hcs hds hes hv0 hsd hv2 hne (jnT (pcs (tx cs) (tx ds)) (tx es)) (jn_other cs ds es).symm hjn.1 hW hA
  have HOK := Lib.hid (show txtE (tx cs) = 0 ∧ txtE (tx ds) = 0 ∧ txtE (tx es) = 0 ∧ txtE (jnT (pcs (tx cs) (tx ds)) (tx es)) = 0 from ⟨hvs, hvt, hvu, hjn.1⟩)
  clear hvs hvt hvu hv0 hv1 hv2 hv hx he hs ht hu hcs hds hes hsd hne hjn
  go_enter Tryz.func4, Tryz.ntmps4
  go_upto_region 1 with fail
  go_cut [7, 8, 9] (fun u7 u8 u9 wz => ∃ (V Wd X : Nat) (k0 : Int) (t0 : ByteArray) (c0 k1 : Int) (t1 : ByteArray) (c1 k2 : Int) (t2 : ByteArray) (c2 : Int), u7 = .pointer (some ⟨V, 0, none⟩) ∧ u8 = .pointer (some ⟨Wd, 0, none⟩) ∧ u9 = .pointer (some ⟨X, 0, none⟩) ∧ Hid ((k0 = 2 ∧ t0 = s ∧ c0 = 0 ∧ txtE s = 0) ∨ (k0 = 4 ∧ ¬ txtE s = 0)) ∧ Hid ((k1 = 2 ∧ t1 = t ∧ c1 = 0 ∧ txtE t = 0) ∨ (k1 = 4 ∧ ¬ txtE t = 0)) ∧ Hid ((k2 = 2 ∧ t2 = u ∧ c2 = 0 ∧ txtE u = 0) ∨ (k2 = 4 ∧ ¬ txtE u = 0)) ∧ Hid (Blk wz V 26 #[.int .i64 k0, .string ⟨#[]⟩, .string ⟨#[]⟩, .string t0, .bool false, .int .i64 c0, .int .i64 0, .int .i64 0, .slice none 0 0]) ∧ Hid (Blk wz Wd 26 #[.int .i64 k1, .string ⟨#[]⟩, .string ⟨#[]⟩, .string t1, .bool false, .int .i64 c1, .int .i64 0, .int .i64 0, .slice none 0 0]) ∧ Hid (Blk wz X 26 #[.int .i64 k2, .string ⟨#[]⟩, .string ⟨#[]⟩, .string t2, .bool false, .int .i64 c2, .int .i64 0, .int .i64 0, .slice none 0 0]) ∧ Hid (Below w.heap.size w wz) ∧ Hid (w.heap.size ≤ V ∧ w.heap.size ≤ Wd ∧ w.heap.size ≤ X ∧ V ≠ Wd ∧ V ≠ X ∧ Wd ≠ X))
  case first =>
    go_wp2_with (first
      | (go_at_call 7; (with_reducible refine (HT1.out _ (Below.refl _ _)).mono ?_); rintro e w1 ⟨k0, t0, c0, rfl, hk0, hb⟩; have HK0 := Lib.hid hk0; have HB1 := Lib.hid hb; clear hk0 hb)
      | (go_at_call 7; (with_reducible refine (HT2.out _ HB1.out).mono ?_); rintro e w2 ⟨k1, t1, c1, rfl, hk1, hb⟩; have HK1 := Lib.hid hk1; have HB2 := Lib.hid (HB1.out.trans (hb.mono HB1.out.size)); clear hk1 hb)
      | (go_at_call 7; (with_reducible refine (HT3.out _ HB2.out).mono ?_); rintro e w3 ⟨k2, t2, c2, rfl, hk2, hb⟩; have HK2 := Lib.hid hk2; have HB3 := Lib.hid (HB2.out.trans (hb.mono HB2.out.size)); clear hk2 hb))
    go_meet
    have ha := below_al w3 (.cells #[.int .i64 k0, .string ⟨#[]⟩, .string ⟨#[]⟩, .string t0, .bool false, .int .i64 c0, .int .i64 0, .int .i64 0, .slice none 0 0] 26)
    have e1 : (w3.alloc (.cells #[.int .i64 k0, .string ⟨#[]⟩, .string ⟨#[]⟩, .string t0, .bool false, .int .i64 c0, .int .i64 0, .int .i64 0, .slice none 0 0] 26)).heap.size = w3.heap.size + 1 := by simp
    have hb := below_al (w3.alloc (.cells #[.int .i64 k0, .string ⟨#[]⟩, .string ⟨#[]⟩, .string t0, .bool false, .int .i64 c0, .int .i64 0, .int .i64 0, .slice none 0 0] 26)) (.cells #[.int .i64 k1, .string ⟨#[]⟩, .string ⟨#[]⟩, .string t1, .bool false, .int .i64 c1, .int .i64 0, .int .i64 0, .slice none 0 0] 26)
    have e2 : ((w3.alloc (.cells #[.int .i64 k0, .string ⟨#[]⟩, .string ⟨#[]⟩, .string t0, .bool false, .int .i64 c0, .int .i64 0, .int .i64 0, .slice none 0 0] 26)).alloc (.cells #[.int .i64 k1, .string ⟨#[]⟩, .string ⟨#[]⟩, .string t1, .bool false, .int .i64 c1, .int .i64 0, .int .i64 0, .slice none 0 0] 26)).heap.size = w3.heap.size + 1 + 1 := by simp
    have hc := below_al ((w3.alloc (.cells #[.int .i64 k0, .string ⟨#[]⟩, .string ⟨#[]⟩, .string t0, .bool false, .int .i64 c0, .int .i64 0, .int .i64 0, .slice none 0 0] 26)).alloc (.cells #[.int .i64 k1, .string ⟨#[]⟩, .string ⟨#[]⟩, .string t1, .bool false, .int .i64 c1, .int .i64 0, .int .i64 0, .slice none 0 0] 26)) (.cells #[.int .i64 k2, .string ⟨#[]⟩, .string ⟨#[]⟩, .string t2, .bool false, .int .i64 c2, .int .i64 0, .int .i64 0, .slice none 0 0] 26)
    have k1b := Blk.new (w3.alloc (.cells #[.int .i64 k0, .string ⟨#[]⟩, .string ⟨#[]⟩, .string t0, .bool false, .int .i64 c0, .int .i64 0, .int .i64 0, .slice none 0 0] 26)) 26 #[.int .i64 k1, .string ⟨#[]⟩, .string ⟨#[]⟩, .string t1, .bool false, .int .i64 c1, .int .i64 0, .int .i64 0, .slice none 0 0]
    have k2b := Blk.new ((w3.alloc (.cells #[.int .i64 k0, .string ⟨#[]⟩, .string ⟨#[]⟩, .string t0, .bool false, .int .i64 c0, .int .i64 0, .int .i64 0, .slice none 0 0] 26)).alloc (.cells #[.int .i64 k1, .string ⟨#[]⟩, .string ⟨#[]⟩, .string t1, .bool false, .int .i64 c1, .int .i64 0, .int .i64 0, .slice none 0 0] 26)) 26 #[.int .i64 k2, .string ⟨#[]⟩, .string ⟨#[]⟩, .string t2, .bool false, .int .i64 c2, .int .i64 0, .int .i64 0, .slice none 0 0]
    rw [e1] at k1b
    rw [e2] at k2b
    have hs := HB3.out.size
    have hb3 := HB3.out.trans (ha.mono hs)
    have hb4 := hb3.trans (hb.mono hb3.size)
    exact ⟨w3.heap.size, w3.heap.size + 1, w3.heap.size + 1 + 1, k0, t0, c0, k1, t1, c1, k2, t2, c2, rfl, rfl, rfl, HK0, HK1, HK2, Lib.hid (((Blk.new w3 26 #[.int .i64 k0, .string ⟨#[]⟩, .string ⟨#[]⟩, .string t0, .bool false, .int .i64 c0, .int .i64 0, .int .i64 0, .slice none 0 0]).later hb).later hc), Lib.hid (k1b.later hc), Lib.hid k2b, Lib.hid (hb4.trans (hc.mono hb4.size)), Lib.hid ⟨hs, by omega, by omega, by omega, by omega, by omega⟩⟩
  case rest =>
  obtain ⟨V, Wd, X, k0, t0, c0, k1, t1, c1, k2, t2, c2, rfl, rfl, rfl, HK0, HK1, HK2, HPV, HPW, HPX, HB2, HVL⟩ := hcut
  clear HT1 HT2 HT3
  go_step
  go_step
  go_cut [] (fun wz => Hid (Blk wz V 26 #[.int .i64 2, .string ⟨#[]⟩, .string ⟨#[]⟩, .string (tx cs), .bool false, .int .i64 0, .int .i64 0, .int .i64 0, .slice none 0 0]) ∧ Hid (Blk wz Wd 26 #[.int .i64 2, .string ⟨#[]⟩, .string ⟨#[]⟩, .string (tx ds), .bool false, .int .i64 0, .int .i64 0, .int .i64 0, .slice none 0 0]) ∧ Hid (Blk wz X 26 #[.int .i64 k2, .string ⟨#[]⟩, .string ⟨#[]⟩, .string t2, .bool false, .int .i64 c2, .int .i64 0, .int .i64 0, .slice none 0 0]) ∧ Hid (Below w.heap.size w wz))
  case first =>
    obtain ⟨e0, e1, e2, e3, e4, e5, e6, e7, e8⟩ := HPV.out.nine
    obtain ⟨g0, g1, g2, g3, g4, g5, g6, g7, g8⟩ := HPW.out.nine
    have HBAD := Lib.hid (show ¬ (txtE s = 0 ∧ txtE t = 0 ∧ ¬ t.toList = [] ∧ s.size ≤ 300) → tx cs = ⟨#[97, 45, 98]⟩ ∧ tx ds = ⟨#[45]⟩ from fun hn => by
      rcases HV.out with ⟨g1, g2, g3, g4, -⟩ | ⟨-, g4, g5⟩
      · exact absurd ⟨g1, g2, g3, g4⟩ hn
      · exact ⟨g4, g5⟩)
    rcases HK0.out with ⟨rfl, rfl, rfl, hs0⟩ | ⟨rfl, hs0⟩
    · rcases HK1.out with ⟨rfl, rfl, rfl, ht0⟩ | ⟨rfl, ht0⟩
      · by_cases hte : t1.toList = []
        · have hte2 : t1.toList.isEmpty = true := by simp [hte]
          have HBD := Lib.hid (HBAD.out (fun h => h.2.2.1 hte))
          clear hs0 ht0 HBAD HV
          obtain ⟨f0, f1, f2, f3, f4, f5, f6, f7, f8⟩ := HPV.out.ninef
          obtain ⟨d0, d1, d2, d3, d4, d5, d6, d7, d8⟩ := HPW.out.ninef
          go_upto_region 99 with (first
            | (go_at_call 7; (with_reducible refine (HTA.out _ HB2.out HBD.out.1).mono ?_); rintro e w3 ⟨rfl, hb⟩; have HPV3 := Lib.hid (HPV.out.later hb); have HPW3 := Lib.hid (HPW.out.later hb); have HPX3 := Lib.hid (HPX.out.later hb); have HB3 := Lib.hid (HB2.out.trans (hb.mono HB2.out.size)); clear hb HPV HPW HPX HB2; clear e0 e1 e2 e3 e4 e5 e6 e7 e8 f0 f1 f2 f3 f4 f5 f6 f7 f8 g0 g1 g2 g3 g4 g5 g6 g7 g8 d0 d1 d2 d3 d4 d5 d6 d7 d8)
            | (go_at_call 7; (with_reducible refine (HTD.out _ HB3.out HBD.out.2).mono ?_); rintro e w4 ⟨rfl, hb⟩; have HPV4 := Lib.hid (HPV3.out.later hb); have HPW4 := Lib.hid (HPW3.out.later hb); have HPX4 := Lib.hid (HPX3.out.later hb); have HB4 := Lib.hid (HB3.out.trans (hb.mono HB3.out.size)); clear hb HPV3 HPW3 HPX3 HB3; obtain ⟨e0, e1, e2, e3, e4, e5, e6, e7, e8⟩ := HPV4.out.nine; obtain ⟨f0, f1, f2, f3, f4, f5, f6, f7, f8⟩ := HPV4.out.ninef; obtain ⟨g0, g1, g2, g3, g4, g5, g6, g7, g8⟩ := (nine_far HPW4.out HVL.out.2.2.2.1.symm (.int .i64 2) (.string ⟨#[]⟩) (.string ⟨#[]⟩) (.string (tx cs)) (.bool false) (.int .i64 0) (.int .i64 0) (.int .i64 0) (.slice none 0 0)).nine; obtain ⟨d0, d1, d2, d3, d4, d5, d6, d7, d8⟩ := (nine_far HPW4.out HVL.out.2.2.2.1.symm (.int .i64 2) (.string ⟨#[]⟩) (.string ⟨#[]⟩) (.string (tx cs)) (.bool false) (.int .i64 0) (.int .i64 0) (.int .i64 0) (.slice none 0 0)).ninef))
          go_meet
          exact ⟨Lib.hid (nine_far (HPV4.out.nine_set (.int .i64 2) (.string ⟨#[]⟩) (.string ⟨#[]⟩) (.string (tx cs)) (.bool false) (.int .i64 0) (.int .i64 0) (.int .i64 0) (.slice none 0 0)).1 HVL.out.2.2.2.1 (.int .i64 2) (.string ⟨#[]⟩) (.string ⟨#[]⟩) (.string (tx ds)) (.bool false) (.int .i64 0) (.int .i64 0) (.int .i64 0) (.slice none 0 0)), Lib.hid ((nine_far HPW4.out HVL.out.2.2.2.1.symm (.int .i64 2) (.string ⟨#[]⟩) (.string ⟨#[]⟩) (.string (tx cs)) (.bool false) (.int .i64 0) (.int .i64 0) (.int .i64 0) (.slice none 0 0)).nine_set (.int .i64 2) (.string ⟨#[]⟩) (.string ⟨#[]⟩) (.string (tx ds)) (.bool false) (.int .i64 0) (.int .i64 0) (.int .i64 0) (.slice none 0 0)).1, Lib.hid (nine_far (nine_far HPX4.out HVL.out.2.2.2.2.1.symm (.int .i64 2) (.string ⟨#[]⟩) (.string ⟨#[]⟩) (.string (tx cs)) (.bool false) (.int .i64 0) (.int .i64 0) (.int .i64 0) (.slice none 0 0)) HVL.out.2.2.2.2.2.symm (.int .i64 2) (.string ⟨#[]⟩) (.string ⟨#[]⟩) (.string (tx ds)) (.bool false) (.int .i64 0) (.int .i64 0) (.int .i64 0) (.slice none 0 0)), Lib.hid (below_nine (below_nine HB4.out HVL.out.1 (.int .i64 2) (.string ⟨#[]⟩) (.string ⟨#[]⟩) (.string (tx cs)) (.bool false) (.int .i64 0) (.int .i64 0) (.int .i64 0) (.slice none 0 0)) HVL.out.2.1 (.int .i64 2) (.string ⟨#[]⟩) (.string ⟨#[]⟩) (.string (tx ds)) (.bool false) (.int .i64 0) (.int .i64 0) (.int .i64 0) (.slice none 0 0))⟩
        · have hte2 : t1.toList.isEmpty = false := by simp [hte]
          by_cases hz : t0.size ≤ 300
          · have z1 : ¬ (300 : Int) < (t0.size : Int) := by omega
            have HGD := Lib.hid (show tx cs = t0 ∧ tx ds = t1 from by
              rcases HV.out with ⟨-, -, -, -, g4, g5⟩ | ⟨g, -⟩
              · exact ⟨g4, g5⟩
              · exact absurd ⟨hs0, ht0, hte, hz⟩ g)
            clear hs0 ht0 hz HBAD HV
            go_wp2_with fail
            go_meet
            exact ⟨by rw [HGD.out.1]; exact HPV, by rw [HGD.out.2]; exact HPW, HPX, HB2⟩
          · have z1 : (300 : Int) < (t0.size : Int) := by omega
            have HBD := Lib.hid (HBAD.out (fun h => hz h.2.2.2))
            clear hs0 ht0 hz HBAD HV
            obtain ⟨f0, f1, f2, f3, f4, f5, f6, f7, f8⟩ := HPV.out.ninef
            obtain ⟨d0, d1, d2, d3, d4, d5, d6, d7, d8⟩ := HPW.out.ninef
            go_upto_region 99 with (first
              | (go_at_call 7; (with_reducible refine (HTA.out _ HB2.out HBD.out.1).mono ?_); rintro e w3 ⟨rfl, hb⟩; have HPV3 := Lib.hid (HPV.out.later hb); have HPW3 := Lib.hid (HPW.out.later hb); have HPX3 := Lib.hid (HPX.out.later hb); have HB3 := Lib.hid (HB2.out.trans (hb.mono HB2.out.size)); clear hb HPV HPW HPX HB2; clear e0 e1 e2 e3 e4 e5 e6 e7 e8 f0 f1 f2 f3 f4 f5 f6 f7 f8 g0 g1 g2 g3 g4 g5 g6 g7 g8 d0 d1 d2 d3 d4 d5 d6 d7 d8)
              | (go_at_call 7; (with_reducible refine (HTD.out _ HB3.out HBD.out.2).mono ?_); rintro e w4 ⟨rfl, hb⟩; have HPV4 := Lib.hid (HPV3.out.later hb); have HPW4 := Lib.hid (HPW3.out.later hb); have HPX4 := Lib.hid (HPX3.out.later hb); have HB4 := Lib.hid (HB3.out.trans (hb.mono HB3.out.size)); clear hb HPV3 HPW3 HPX3 HB3; obtain ⟨e0, e1, e2, e3, e4, e5, e6, e7, e8⟩ := HPV4.out.nine; obtain ⟨f0, f1, f2, f3, f4, f5, f6, f7, f8⟩ := HPV4.out.ninef; obtain ⟨g0, g1, g2, g3, g4, g5, g6, g7, g8⟩ := (nine_far HPW4.out HVL.out.2.2.2.1.symm (.int .i64 2) (.string ⟨#[]⟩) (.string ⟨#[]⟩) (.string (tx cs)) (.bool false) (.int .i64 0) (.int .i64 0) (.int .i64 0) (.slice none 0 0)).nine; obtain ⟨d0, d1, d2, d3, d4, d5, d6, d7, d8⟩ := (nine_far HPW4.out HVL.out.2.2.2.1.symm (.int .i64 2) (.string ⟨#[]⟩) (.string ⟨#[]⟩) (.string (tx cs)) (.bool false) (.int .i64 0) (.int .i64 0) (.int .i64 0) (.slice none 0 0)).ninef))
            go_meet
            exact ⟨Lib.hid (nine_far (HPV4.out.nine_set (.int .i64 2) (.string ⟨#[]⟩) (.string ⟨#[]⟩) (.string (tx cs)) (.bool false) (.int .i64 0) (.int .i64 0) (.int .i64 0) (.slice none 0 0)).1 HVL.out.2.2.2.1 (.int .i64 2) (.string ⟨#[]⟩) (.string ⟨#[]⟩) (.string (tx ds)) (.bool false) (.int .i64 0) (.int .i64 0) (.int .i64 0) (.slice none 0 0)), Lib.hid ((nine_far HPW4.out HVL.out.2.2.2.1.symm (.int .i64 2) (.string ⟨#[]⟩) (.string ⟨#[]⟩) (.string (tx cs)) (.bool false) (.int .i64 0) (.int .i64 0) (.int .i64 0) (.slice none 0 0)).nine_set (.int .i64 2) (.string ⟨#[]⟩) (.string ⟨#[]⟩) (.string (tx ds)) (.bool false) (.int .i64 0) (.int .i64 0) (.int .i64 0) (.slice none 0 0)).1, Lib.hid (nine_far (nine_far HPX4.out HVL.out.2.2.2.2.1.symm (.int .i64 2) (.string ⟨#[]⟩) (.string ⟨#[]⟩) (.string (tx cs)) (.bool false) (.int .i64 0) (.int .i64 0) (.int .i64 0) (.slice none 0 0)) HVL.out.2.2.2.2.2.symm (.int .i64 2) (.string ⟨#[]⟩) (.string ⟨#[]⟩) (.string (tx ds)) (.bool false) (.int .i64 0) (.int .i64 0) (.int .i64 0) (.slice none 0 0)), Lib.hid (below_nine (below_nine HB4.out HVL.out.1 (.int .i64 2) (.string ⟨#[]⟩) (.string ⟨#[]⟩) (.string (tx cs)) (.bool false) (.int .i64 0) (.int .i64 0) (.int .i64 0) (.slice none 0 0)) HVL.out.2.1 (.int .i64 2) (.string ⟨#[]⟩) (.string ⟨#[]⟩) (.string (tx ds)) (.bool false) (.int .i64 0) (.int .i64 0) (.int .i64 0) (.slice none 0 0))⟩
      · have HBD := Lib.hid (HBAD.out (fun h => ht0 h.2.1))
        clear hs0 ht0 HBAD HV
        obtain ⟨f0, f1, f2, f3, f4, f5, f6, f7, f8⟩ := HPV.out.ninef
        obtain ⟨d0, d1, d2, d3, d4, d5, d6, d7, d8⟩ := HPW.out.ninef
        go_upto_region 99 with (first
          | (go_at_call 7; (with_reducible refine (HTA.out _ HB2.out HBD.out.1).mono ?_); rintro e w3 ⟨rfl, hb⟩; have HPV3 := Lib.hid (HPV.out.later hb); have HPW3 := Lib.hid (HPW.out.later hb); have HPX3 := Lib.hid (HPX.out.later hb); have HB3 := Lib.hid (HB2.out.trans (hb.mono HB2.out.size)); clear hb HPV HPW HPX HB2; clear e0 e1 e2 e3 e4 e5 e6 e7 e8 f0 f1 f2 f3 f4 f5 f6 f7 f8 g0 g1 g2 g3 g4 g5 g6 g7 g8 d0 d1 d2 d3 d4 d5 d6 d7 d8)
          | (go_at_call 7; (with_reducible refine (HTD.out _ HB3.out HBD.out.2).mono ?_); rintro e w4 ⟨rfl, hb⟩; have HPV4 := Lib.hid (HPV3.out.later hb); have HPW4 := Lib.hid (HPW3.out.later hb); have HPX4 := Lib.hid (HPX3.out.later hb); have HB4 := Lib.hid (HB3.out.trans (hb.mono HB3.out.size)); clear hb HPV3 HPW3 HPX3 HB3; obtain ⟨e0, e1, e2, e3, e4, e5, e6, e7, e8⟩ := HPV4.out.nine; obtain ⟨f0, f1, f2, f3, f4, f5, f6, f7, f8⟩ := HPV4.out.ninef; obtain ⟨g0, g1, g2, g3, g4, g5, g6, g7, g8⟩ := (nine_far HPW4.out HVL.out.2.2.2.1.symm (.int .i64 2) (.string ⟨#[]⟩) (.string ⟨#[]⟩) (.string (tx cs)) (.bool false) (.int .i64 0) (.int .i64 0) (.int .i64 0) (.slice none 0 0)).nine; obtain ⟨d0, d1, d2, d3, d4, d5, d6, d7, d8⟩ := (nine_far HPW4.out HVL.out.2.2.2.1.symm (.int .i64 2) (.string ⟨#[]⟩) (.string ⟨#[]⟩) (.string (tx cs)) (.bool false) (.int .i64 0) (.int .i64 0) (.int .i64 0) (.slice none 0 0)).ninef))
        go_meet
        exact ⟨Lib.hid (nine_far (HPV4.out.nine_set (.int .i64 2) (.string ⟨#[]⟩) (.string ⟨#[]⟩) (.string (tx cs)) (.bool false) (.int .i64 0) (.int .i64 0) (.int .i64 0) (.slice none 0 0)).1 HVL.out.2.2.2.1 (.int .i64 2) (.string ⟨#[]⟩) (.string ⟨#[]⟩) (.string (tx ds)) (.bool false) (.int .i64 0) (.int .i64 0) (.int .i64 0) (.slice none 0 0)), Lib.hid ((nine_far HPW4.out HVL.out.2.2.2.1.symm (.int .i64 2) (.string ⟨#[]⟩) (.string ⟨#[]⟩) (.string (tx cs)) (.bool false) (.int .i64 0) (.int .i64 0) (.int .i64 0) (.slice none 0 0)).nine_set (.int .i64 2) (.string ⟨#[]⟩) (.string ⟨#[]⟩) (.string (tx ds)) (.bool false) (.int .i64 0) (.int .i64 0) (.int .i64 0) (.slice none 0 0)).1, Lib.hid (nine_far (nine_far HPX4.out HVL.out.2.2.2.2.1.symm (.int .i64 2) (.string ⟨#[]⟩) (.string ⟨#[]⟩) (.string (tx cs)) (.bool false) (.int .i64 0) (.int .i64 0) (.int .i64 0) (.slice none 0 0)) HVL.out.2.2.2.2.2.symm (.int .i64 2) (.string ⟨#[]⟩) (.string ⟨#[]⟩) (.string (tx ds)) (.bool false) (.int .i64 0) (.int .i64 0) (.int .i64 0) (.slice none 0 0)), Lib.hid (below_nine (below_nine HB4.out HVL.out.1 (.int .i64 2) (.string ⟨#[]⟩) (.string ⟨#[]⟩) (.string (tx cs)) (.bool false) (.int .i64 0) (.int .i64 0) (.int .i64 0) (.slice none 0 0)) HVL.out.2.1 (.int .i64 2) (.string ⟨#[]⟩) (.string ⟨#[]⟩) (.string (tx ds)) (.bool false) (.int .i64 0) (.int .i64 0) (.int .i64 0) (.slice none 0 0))⟩
    · have HBD := Lib.hid (HBAD.out (fun h => hs0 h.1))
      clear hs0 HBAD HV
      obtain ⟨f0, f1, f2, f3, f4, f5, f6, f7, f8⟩ := HPV.out.ninef
      obtain ⟨d0, d1, d2, d3, d4, d5, d6, d7, d8⟩ := HPW.out.ninef
      go_upto_region 99 with (first
        | (go_at_call 7; (with_reducible refine (HTA.out _ HB2.out HBD.out.1).mono ?_); rintro e w3 ⟨rfl, hb⟩; have HPV3 := Lib.hid (HPV.out.later hb); have HPW3 := Lib.hid (HPW.out.later hb); have HPX3 := Lib.hid (HPX.out.later hb); have HB3 := Lib.hid (HB2.out.trans (hb.mono HB2.out.size)); clear hb HPV HPW HPX HB2; clear e0 e1 e2 e3 e4 e5 e6 e7 e8 f0 f1 f2 f3 f4 f5 f6 f7 f8 g0 g1 g2 g3 g4 g5 g6 g7 g8 d0 d1 d2 d3 d4 d5 d6 d7 d8)
        | (go_at_call 7; (with_reducible refine (HTD.out _ HB3.out HBD.out.2).mono ?_); rintro e w4 ⟨rfl, hb⟩; have HPV4 := Lib.hid (HPV3.out.later hb); have HPW4 := Lib.hid (HPW3.out.later hb); have HPX4 := Lib.hid (HPX3.out.later hb); have HB4 := Lib.hid (HB3.out.trans (hb.mono HB3.out.size)); clear hb HPV3 HPW3 HPX3 HB3; obtain ⟨e0, e1, e2, e3, e4, e5, e6, e7, e8⟩ := HPV4.out.nine; obtain ⟨f0, f1, f2, f3, f4, f5, f6, f7, f8⟩ := HPV4.out.ninef; obtain ⟨g0, g1, g2, g3, g4, g5, g6, g7, g8⟩ := (nine_far HPW4.out HVL.out.2.2.2.1.symm (.int .i64 2) (.string ⟨#[]⟩) (.string ⟨#[]⟩) (.string (tx cs)) (.bool false) (.int .i64 0) (.int .i64 0) (.int .i64 0) (.slice none 0 0)).nine; obtain ⟨d0, d1, d2, d3, d4, d5, d6, d7, d8⟩ := (nine_far HPW4.out HVL.out.2.2.2.1.symm (.int .i64 2) (.string ⟨#[]⟩) (.string ⟨#[]⟩) (.string (tx cs)) (.bool false) (.int .i64 0) (.int .i64 0) (.int .i64 0) (.slice none 0 0)).ninef))
      go_meet
      exact ⟨Lib.hid (nine_far (HPV4.out.nine_set (.int .i64 2) (.string ⟨#[]⟩) (.string ⟨#[]⟩) (.string (tx cs)) (.bool false) (.int .i64 0) (.int .i64 0) (.int .i64 0) (.slice none 0 0)).1 HVL.out.2.2.2.1 (.int .i64 2) (.string ⟨#[]⟩) (.string ⟨#[]⟩) (.string (tx ds)) (.bool false) (.int .i64 0) (.int .i64 0) (.int .i64 0) (.slice none 0 0)), Lib.hid ((nine_far HPW4.out HVL.out.2.2.2.1.symm (.int .i64 2) (.string ⟨#[]⟩) (.string ⟨#[]⟩) (.string (tx cs)) (.bool false) (.int .i64 0) (.int .i64 0) (.int .i64 0) (.slice none 0 0)).nine_set (.int .i64 2) (.string ⟨#[]⟩) (.string ⟨#[]⟩) (.string (tx ds)) (.bool false) (.int .i64 0) (.int .i64 0) (.int .i64 0) (.slice none 0 0)).1, Lib.hid (nine_far (nine_far HPX4.out HVL.out.2.2.2.2.1.symm (.int .i64 2) (.string ⟨#[]⟩) (.string ⟨#[]⟩) (.string (tx cs)) (.bool false) (.int .i64 0) (.int .i64 0) (.int .i64 0) (.slice none 0 0)) HVL.out.2.2.2.2.2.symm (.int .i64 2) (.string ⟨#[]⟩) (.string ⟨#[]⟩) (.string (tx ds)) (.bool false) (.int .i64 0) (.int .i64 0) (.int .i64 0) (.slice none 0 0)), Lib.hid (below_nine (below_nine HB4.out HVL.out.1 (.int .i64 2) (.string ⟨#[]⟩) (.string ⟨#[]⟩) (.string (tx cs)) (.bool false) (.int .i64 0) (.int .i64 0) (.int .i64 0) (.slice none 0 0)) HVL.out.2.1 (.int .i64 2) (.string ⟨#[]⟩) (.string ⟨#[]⟩) (.string (tx ds)) (.bool false) (.int .i64 0) (.int .i64 0) (.int .i64 0) (.slice none 0 0))⟩
  case rest =>
  obtain ⟨HPV, HPW, HPX, HB2⟩ := hcut
  clear HK0 HK1 HTA HTD HV
  go_step
  go_step
  go_cut [] (fun wz => Hid (Blk wz V 26 #[.int .i64 2, .string ⟨#[]⟩, .string ⟨#[]⟩, .string (tx cs), .bool false, .int .i64 0, .int .i64 0, .int .i64 0, .slice none 0 0]) ∧ Hid (Blk wz Wd 26 #[.int .i64 2, .string ⟨#[]⟩, .string ⟨#[]⟩, .string (tx ds), .bool false, .int .i64 0, .int .i64 0, .int .i64 0, .slice none 0 0]) ∧ Hid (Blk wz X 26 #[.int .i64 2, .string ⟨#[]⟩, .string ⟨#[]⟩, .string (tx es), .bool false, .int .i64 0, .int .i64 0, .int .i64 0, .slice none 0 0]) ∧ Hid (Below w.heap.size w wz))
  case first =>
    obtain ⟨e0, e1, e2, e3, e4, e5, e6, e7, e8⟩ := HPX.out.nine
    have HBAD := Lib.hid (show ¬ (txtE u = 0 ∧ u.size ≤ 20) → tx es = ⟨#[43]⟩ from fun hn => by
      rcases HX.out with ⟨g1, g2, -⟩ | ⟨-, g4⟩
      · exact absurd ⟨g1, g2⟩ hn
      · exact g4)
    rcases HK2.out with ⟨rfl, rfl, rfl, hs0⟩ | ⟨rfl, hs0⟩
    · by_cases hz : t2.size ≤ 20
      · have z1 : ¬ (20 : Int) < (t2.size : Int) := by omega
        have HGD := Lib.hid (show tx es = t2 from by
          rcases HX.out with ⟨-, -, g4⟩ | ⟨g, -⟩
          · exact g4
          · exact absurd ⟨hs0, hz⟩ g)
        clear hs0 hz HBAD HX
        go_wp2_with fail
        go_meet
        exact ⟨HPV, HPW, by rw [HGD.out]; exact HPX, HB2⟩
      · have z1 : (20 : Int) < (t2.size : Int) := by omega
        have HBD := Lib.hid (HBAD.out (fun h => hz h.2))
        clear hs0 hz HBAD HX
        obtain ⟨f0, f1, f2, f3, f4, f5, f6, f7, f8⟩ := HPX.out.ninef
        go_upto_region 99 with (go_at_call 7; (with_reducible refine (HTP.out _ HB2.out HBD.out).mono ?_); rintro e w3 ⟨rfl, hb⟩; have HPV3 := Lib.hid (HPV.out.later hb); have HPW3 := Lib.hid (HPW.out.later hb); have HPX3 := Lib.hid (HPX.out.later hb); have HB3 := Lib.hid (HB2.out.trans (hb.mono HB2.out.size)); clear hb HPV HPW HPX HB2; clear e0 e1 e2 e3 e4 e5 e6 e7 e8 f0 f1 f2 f3 f4 f5 f6 f7 f8; obtain ⟨e0, e1, e2, e3, e4, e5, e6, e7, e8⟩ := HPX3.out.nine; obtain ⟨f0, f1, f2, f3, f4, f5, f6, f7, f8⟩ := HPX3.out.ninef)
        go_meet
        exact ⟨Lib.hid (nine_far HPV3.out HVL.out.2.2.2.2.1 (.int .i64 2) (.string ⟨#[]⟩) (.string ⟨#[]⟩) (.string (tx es)) (.bool false) (.int .i64 0) (.int .i64 0) (.int .i64 0) (.slice none 0 0)), Lib.hid (nine_far HPW3.out HVL.out.2.2.2.2.2 (.int .i64 2) (.string ⟨#[]⟩) (.string ⟨#[]⟩) (.string (tx es)) (.bool false) (.int .i64 0) (.int .i64 0) (.int .i64 0) (.slice none 0 0)), Lib.hid (HPX3.out.nine_set (.int .i64 2) (.string ⟨#[]⟩) (.string ⟨#[]⟩) (.string (tx es)) (.bool false) (.int .i64 0) (.int .i64 0) (.int .i64 0) (.slice none 0 0)).1, Lib.hid (below_nine HB3.out HVL.out.2.2.1 (.int .i64 2) (.string ⟨#[]⟩) (.string ⟨#[]⟩) (.string (tx es)) (.bool false) (.int .i64 0) (.int .i64 0) (.int .i64 0) (.slice none 0 0))⟩
    · have HBD := Lib.hid (HBAD.out (fun h => hs0 h.1))
      clear hs0 HBAD HX
      obtain ⟨f0, f1, f2, f3, f4, f5, f6, f7, f8⟩ := HPX.out.ninef
      go_upto_region 99 with (go_at_call 7; (with_reducible refine (HTP.out _ HB2.out HBD.out).mono ?_); rintro e w3 ⟨rfl, hb⟩; have HPV3 := Lib.hid (HPV.out.later hb); have HPW3 := Lib.hid (HPW.out.later hb); have HPX3 := Lib.hid (HPX.out.later hb); have HB3 := Lib.hid (HB2.out.trans (hb.mono HB2.out.size)); clear hb HPV HPW HPX HB2; clear e0 e1 e2 e3 e4 e5 e6 e7 e8 f0 f1 f2 f3 f4 f5 f6 f7 f8; obtain ⟨e0, e1, e2, e3, e4, e5, e6, e7, e8⟩ := HPX3.out.nine; obtain ⟨f0, f1, f2, f3, f4, f5, f6, f7, f8⟩ := HPX3.out.ninef)
      go_meet
      exact ⟨Lib.hid (nine_far HPV3.out HVL.out.2.2.2.2.1 (.int .i64 2) (.string ⟨#[]⟩) (.string ⟨#[]⟩) (.string (tx es)) (.bool false) (.int .i64 0) (.int .i64 0) (.int .i64 0) (.slice none 0 0)), Lib.hid (nine_far HPW3.out HVL.out.2.2.2.2.2 (.int .i64 2) (.string ⟨#[]⟩) (.string ⟨#[]⟩) (.string (tx es)) (.bool false) (.int .i64 0) (.int .i64 0) (.int .i64 0) (.slice none 0 0)), Lib.hid (HPX3.out.nine_set (.int .i64 2) (.string ⟨#[]⟩) (.string ⟨#[]⟩) (.string (tx es)) (.bool false) (.int .i64 0) (.int .i64 0) (.int .i64 0) (.slice none 0 0)).1, Lib.hid (below_nine HB3.out HVL.out.2.2.1 (.int .i64 2) (.string ⟨#[]⟩) (.string ⟨#[]⟩) (.string (tx es)) (.bool false) (.int .i64 0) (.int .i64 0) (.int .i64 0) (.slice none 0 0))⟩
  case rest =>
  obtain ⟨HPV, HPW, HPX, HBc⟩ := hcut
  clear HK2 HTP HX HB2 HVL
  obtain ⟨m, hm⟩ : ∃ m, (pcs (tx cs) (tx ds)).length = m := ⟨_, rfl⟩
  obtain ⟨sx, hsx⟩ : ∃ sx, jnT (pcs (tx cs) (tx ds)) (tx es) = sx := ⟨_, rfl⟩
  have HSP := Lib.hid (show ∀ W A c, VEnv W → Reads 9 csV W (.slice A 2 c) [tV (tx cs), tV (tx ds)] → Calls Tryz.prog 8 #[.string ⟨#[84, 69, 88, 84, 83, 80, 76, 73, 84]⟩, .slice A 2 c] W fun e w' => ∃ b o cc, e = .returned (.agg #[.int .i64 5, .string ⟨#[]⟩, .string ⟨#[]⟩, .string ⟨#[]⟩, .bool false, .int .i64 0, .int .i64 1, .int .i64 (m : Int), .slice (some ⟨b, o, none⟩) m cc]) ∧ AR w' (arrU 1 m (some ⟨b, o, none⟩) m cc) 1 m ((pcs (tx cs) (tx ds)).map tV) ∧ Below W.heap.size W w' from fun W A c hW hA => by
    have h := HSPL.out W A c hW hA
    rw [hm] at h
    exact h)
  have HSU := Lib.hid (show ∀ W A c, VEnv W → Reads 9 csV W (.slice A 3 c) [tV (tx cs), tV (tx ds), tV (tx es)] → Calls Tryz.prog 8 #[.string ⟨#[83, 85, 66, 83, 84, 73, 84, 85, 84, 69]⟩, .slice A 3 c] W fun e w' => e = .returned (.agg #[.int .i64 2, .string ⟨#[]⟩, .string ⟨#[]⟩, .string sx, .bool false, .int .i64 0, .int .i64 0, .int .i64 0, .slice none 0 0]) ∧ Below W.heap.size W w' from fun W A c hW hA => by
    have h := HSUB.out W A c hW hA
    rw [hsx] at h
    exact h)
  have HJJ1 := Lib.hid (show ∀ (b o cc : Nat) W A c, VEnv W → AR W (arrU 1 m (some ⟨b, o, none⟩) m cc) 1 m ((pcs (tx cs) (tx ds)).map tV) → Reads 9 csV W (.slice A 3 c) [tV (tx ds), bV false, arrU 1 m (some ⟨b, o, none⟩) m cc] → Calls Tryz.prog 8 #[.string ⟨#[84, 69, 88, 84, 74, 79, 73, 78]⟩, .slice A 3 c] W fun e w' => e = .returned (.agg #[.int .i64 2, .string ⟨#[]⟩, .string ⟨#[]⟩, .string (tx cs), .bool false, .int .i64 0, .int .i64 0, .int .i64 0, .slice none 0 0]) ∧ Below W.heap.size W w' from fun b o cc W A c hW ha hA => HTJ.out W A c (tx ds) _ m HOK.out.2.1 ha (tx cs) (jn_back cs ds) HOK.out.1 hW hA)
  have HJJ2 := Lib.hid (show ∀ (b o cc : Nat) W A c, VEnv W → AR W (arrU 1 m (some ⟨b, o, none⟩) m cc) 1 m ((pcs (tx cs) (tx ds)).map tV) → Reads 9 csV W (.slice A 3 c) [tV (tx es), bV false, arrU 1 m (some ⟨b, o, none⟩) m cc] → Calls Tryz.prog 8 #[.string ⟨#[84, 69, 88, 84, 74, 79, 73, 78]⟩, .slice A 3 c] W fun e w' => e = .returned (.agg #[.int .i64 2, .string ⟨#[]⟩, .string ⟨#[]⟩, .string sx, .bool false, .int .i64 0, .int .i64 0, .int .i64 0, .slice none 0 0]) ∧ Below W.heap.size W w' from fun b o cc W A c hW ha hA => HTJ.out W A c (tx es) _ m HOK.out.2.2.1 ha sx hsx (by rw [← hsx]; exact HOK.out.2.2.2) hW hA)
  clear HSPL HSUB HTJ HOK hm hsx
  have hwb := below_al wc (.cells #[.int .i64 2, .string ⟨#[]⟩, .string ⟨#[]⟩, .string (tx cs), .bool false, .int .i64 0, .int .i64 0, .int .i64 0, .slice none 0 0, .int .i64 2, .string ⟨#[]⟩, .string ⟨#[]⟩, .string (tx ds), .bool false, .int .i64 0, .int .i64 0, .int .i64 0, .slice none 0 0] 26)
  have hbw := HBc.out.trans (hwb.mono HBc.out.size)
  have HSP1 := Lib.hid (HSP.out (wc.alloc (.cells #[.int .i64 2, .string ⟨#[]⟩, .string ⟨#[]⟩, .string (tx cs), .bool false, .int .i64 0, .int .i64 0, .int .i64 0, .slice none 0 0, .int .i64 2, .string ⟨#[]⟩, .string ⟨#[]⟩, .string (tx ds), .bool false, .int .i64 0, .int .i64 0, .int .i64 0, .slice none 0 0] 26)) (some ⟨wc.heap.size, 0, none⟩) 2 (HE.out.below hbw) (reads_newN wc _ [tV (tx cs), tV (tx ds)] rfl))
  clear hbw HSP
  obtain ⟨e0, e1, e2, e3, e4, e5, e6, e7, e8⟩ := HPV.out.nine
  obtain ⟨g0, g1, g2, g3, g4, g5, g6, g7, g8⟩ := HPW.out.nine
  go_upto_region 7 with (go_at_call 8; (with_reducible refine HSP1.out.mono ?_); rintro e w3 ⟨b, o, cc, rfl, har, hb⟩; have HAR3 := Lib.hid har; have HB3 := Lib.hid hb; clear har hb)
  clear e0 e1 e2 e3 e4 e5 e6 e7 e8 g0 g1 g2 g3 g4 g5 g6 g7 g8
  have hb1 := hwb.trans (HB3.out.mono hwb.size)
  have hba := below_al w3 (.cells #[.int .i64 5, .string ⟨#[]⟩, .string ⟨#[]⟩, .string ⟨#[]⟩, .bool false, .int .i64 0, .int .i64 1, .int .i64 (m : Int), .slice (some ⟨b, o, none⟩) m cc] 26)
  have hb2 := hb1.trans (hba.mono hb1.size)
  have HPL := Lib.hid (Blk.new w3 26 #[.int .i64 5, .string ⟨#[]⟩, .string ⟨#[]⟩, .string ⟨#[]⟩, .bool false, .int .i64 0, .int .i64 1, .int .i64 (m : Int), .slice (some ⟨b, o, none⟩) m cc])
  have HPVn := Lib.hid (HPV.out.later hb2)
  have HPWn := Lib.hid (HPW.out.later hb2)
  have HPXn := Lib.hid (HPX.out.later hb2)
  have HARn := Lib.hid (HAR3.out.below hba)
  have HB := Lib.hid (HBc.out.trans (hb2.mono HBc.out.size))
  clear hb1 hba hb2 HSP1 HPV HPW HPX HBc HB3 hwb HAR3
  revert HPL HPVn HPWn HPXn HARn HB
  generalize w3.alloc (.cells #[.int .i64 5, .string ⟨#[]⟩, .string ⟨#[]⟩, .string ⟨#[]⟩, .bool false, .int .i64 0, .int .i64 1, .int .i64 (m : Int), .slice (some ⟨b, o, none⟩) m cc] 26) = w5
  generalize w3.heap.size = Lk
  intro HPL HPVn HPWn HPXn HAR HB
  obtain ⟨e0, e1, e2, e3, e4, e5, e6, e7, e8⟩ := HPL.out.nine
  go_upto_region 9 with fail
  clear e0 e1 e2 e3 e4 e5 e6 e7 e8
  have HJ1 := Lib.hid (HJJ1.out b o cc)
  have HCT := Lib.hid (show ∀ w', Below w5.heap.size w5 w' → VEnv w' from fun w' h => HE.out.below (HB.out.trans (h.mono HB.out.size)))
  have HSS := Lib.hid (show ∀ w', Below w5.heap.size w5 w' → w'.cell? ⟨Wd, 0, none⟩ = some (.int .i64 2) ∧ w'.cell? ⟨Wd, 1, none⟩ = some (.string ⟨#[]⟩) ∧ w'.cell? ⟨Wd, 2, none⟩ = some (.string ⟨#[]⟩) ∧ w'.cell? ⟨Wd, 3, none⟩ = some (.string (tx ds)) ∧ w'.cell? ⟨Wd, 4, none⟩ = some (.bool false) ∧ w'.cell? ⟨Wd, 5, none⟩ = some (.int .i64 0) ∧ w'.cell? ⟨Wd, 6, none⟩ = some (.int .i64 0) ∧ w'.cell? ⟨Wd, 7, none⟩ = some (.int .i64 0) ∧ w'.cell? ⟨Wd, 8, none⟩ = some (.slice none 0 0) ∧ w'.cell? ⟨Lk, 0, none⟩ = some (.int .i64 5) ∧ w'.cell? ⟨Lk, 1, none⟩ = some (.string ⟨#[]⟩) ∧ w'.cell? ⟨Lk, 2, none⟩ = some (.string ⟨#[]⟩) ∧ w'.cell? ⟨Lk, 3, none⟩ = some (.string ⟨#[]⟩) ∧ w'.cell? ⟨Lk, 4, none⟩ = some (.bool false) ∧ w'.cell? ⟨Lk, 5, none⟩ = some (.int .i64 0) ∧ w'.cell? ⟨Lk, 6, none⟩ = some (.int .i64 1) ∧ w'.cell? ⟨Lk, 7, none⟩ = some (.int .i64 (m : Int)) ∧ w'.cell? ⟨Lk, 8, none⟩ = some (.slice (some ⟨b, o, none⟩) m cc) from fun w' h => ⟨(HPWn.out.later h).cell 0, (HPWn.out.later h).cell 1, (HPWn.out.later h).cell 2, (HPWn.out.later h).cell 3, (HPWn.out.later h).cell 4, (HPWn.out.later h).cell 5, (HPWn.out.later h).cell 6, (HPWn.out.later h).cell 7, (HPWn.out.later h).cell 8, (HPL.out.later h).cell 0, (HPL.out.later h).cell 1, (HPL.out.later h).cell 2, (HPL.out.later h).cell 3, (HPL.out.later h).cell 4, (HPL.out.later h).cell 5, (HPL.out.later h).cell 6, (HPL.out.later h).cell 7, (HPL.out.later h).cell 8⟩)
  go_cut [11] (fun u11 wz => ∃ J : Nat, u11 = .pointer (some ⟨J, 0, none⟩) ∧ Hid (Blk wz J 26 #[.int .i64 2, .string ⟨#[]⟩, .string ⟨#[]⟩, .string (tx cs), .bool false, .int .i64 0, .int .i64 0, .int .i64 0, .slice none 0 0]) ∧ Hid (Below w5.heap.size w5 wz))
  case first =>
    refine wp_region_G (S1 := fun w' => w'.cell? ⟨Wd, 0, none⟩ = some (.int .i64 2) ∧ w'.cell? ⟨Wd, 1, none⟩ = some (.string ⟨#[]⟩) ∧ w'.cell? ⟨Wd, 2, none⟩ = some (.string ⟨#[]⟩) ∧ w'.cell? ⟨Wd, 3, none⟩ = some (.string (tx ds)) ∧ w'.cell? ⟨Wd, 4, none⟩ = some (.bool false) ∧ w'.cell? ⟨Wd, 5, none⟩ = some (.int .i64 0) ∧ w'.cell? ⟨Wd, 6, none⟩ = some (.int .i64 0) ∧ w'.cell? ⟨Wd, 7, none⟩ = some (.int .i64 0) ∧ w'.cell? ⟨Wd, 8, none⟩ = some (.slice none 0 0) ∧ w'.cell? ⟨Lk, 0, none⟩ = some (.int .i64 5) ∧ w'.cell? ⟨Lk, 1, none⟩ = some (.string ⟨#[]⟩) ∧ w'.cell? ⟨Lk, 2, none⟩ = some (.string ⟨#[]⟩) ∧ w'.cell? ⟨Lk, 3, none⟩ = some (.string ⟨#[]⟩) ∧ w'.cell? ⟨Lk, 4, none⟩ = some (.bool false) ∧ w'.cell? ⟨Lk, 5, none⟩ = some (.int .i64 0) ∧ w'.cell? ⟨Lk, 6, none⟩ = some (.int .i64 1) ∧ w'.cell? ⟨Lk, 7, none⟩ = some (.int .i64 (m : Int)) ∧ w'.cell? ⟨Lk, 8, none⟩ = some (.slice (some ⟨b, o, none⟩) m cc)) (S2 := fun _ => True) (d := 99) (by kernel_rfl) (HSS.out _ (Below.refl _ w5).drew) trivial (fun hT => ?_)
    refine wpAnyG_take1d (i := 0) (v := ?_) rfl rfl (by kernel_rfl) (by kernel_rfl) (by kernel_rfl) (by kernel_rfl) (fun _ _ _ h => h) (Or.inl ⟨by rfl, ?_⟩) (by assumption) (fun hT => ?_)
    rotate_left
    · intro w hSw
      (try dsimp only at hSw)
      go_simp
      (try with_reducible rfl)
    (try simp only [Act.put, List.setIfInBounds_toArray, List.set_cons_zero, List.set_cons_succ])
    refine wpAnyG_take1d (i := 2) (v := ?_) rfl rfl (by kernel_rfl) (by kernel_rfl) (by kernel_rfl) (by kernel_rfl) (fun _ _ _ h => h) (Or.inl ⟨by rfl, ?_⟩) (by assumption) (fun hT => ?_)
    rotate_left
    · intro w hSw
      (try dsimp only at hSw)
      go_simp
      (try with_reducible rfl)
    (try simp only [Act.put, List.setIfInBounds_toArray, List.set_cons_zero, List.set_cons_succ])
    refine wpAnyG_ready (rs := [1, 5]) (by kernel_rfl) (by simp) ?_
    refine AllG.cons (i := 1) rfl (fun K hK => ?_) (AllG.cons (i := 5) rfl (fun K hK => ?_) AllG.nil)
    · go_simp
      go_at_call 13
      (with_reducible refine (bool_x false _).mono ?_)
      rintro e a1 ⟨rfl, hb⟩
      have HSa1 := Lib.hid (show Below w5.heap.size w5 a1 from by first | exact hb | exact (Below.refl _ w5).drew.trans hb)
      clear hb
      refine hK.out _ _ ⟨HSS.out _ HSa1.out, .inr trivial⟩ (fun hT => ?_)
      clear hK K
      (try simp only [Act.put, List.setIfInBounds_toArray, List.set_cons_zero, List.set_cons_succ])
      refine wpAnyG_ready (rs := [3, 5]) (by kernel_rfl) (by simp) ?_
      refine AllG.cons (i := 3) rfl (fun K hK => ?_) (AllG.cons (i := 5) rfl (fun K hK => ?_) AllG.nil)
      · go_simp
        refine gen_w ?_
        intro a3 hwa
        have HSa3 := Lib.hid (show Below a1.heap.size a1 a3 from by rw [hwa]; first | exact below_al a1 _ | exact (below_al a1 _).drew)
        have HBa3 := Lib.hid (show Reads 9 csV a3 (.slice (some ⟨a1.heap.size, 0, none⟩) 3 3) [tV (tx ds), bV false, (arrU 1 m (some ⟨b, o, none⟩) m cc)] from by rw [hwa]; exact reads_newN a1 _ [tV (tx ds), bV false, (arrU 1 m (some ⟨b, o, none⟩) m cc)] rfl)
        clear hwa
        refine hK.out _ _ ⟨HSS.out _ (below_tr HSa1.out HSa3.out), .inr trivial⟩ (fun hT => ?_)
        clear hK K
        (try simp only [Act.put, List.setIfInBounds_toArray, List.set_cons_zero, List.set_cons_succ])
        refine wpAnyG_ready (rs := [4, 5]) (by kernel_rfl) (by simp) ?_
        refine AllG.cons (i := 4) rfl (fun K hK => ?_) (AllG.cons (i := 5) rfl (fun K hK => ?_) AllG.nil)
        · go_simp
          go_at_call 8
          (with_reducible refine (HJ1.out _ _ _ (HCT.out _ (below_tr HSa1.out HSa3.out)) (HAR.out.below (below_tr HSa1.out HSa3.out)) (HBa3.out.below (Below.refl _ a3))).mono ?_)
          rintro e a4 ⟨rfl, hb⟩
          have HSa4 := Lib.hid (show Below a3.heap.size a3 a4 from by first | exact hb | exact (Below.refl _ a3).drew.trans hb)
          clear hb
          refine hK.out _ _ ⟨HSS.out _ (below_tr (below_tr HSa1.out HSa3.out) HSa4.out), .inr trivial⟩ (fun hT => ?_)
          clear hK K
          (try simp only [Act.put, List.setIfInBounds_toArray, List.set_cons_zero, List.set_cons_succ])
          refine wpAnyG_ready (rs := [5]) (by kernel_rfl) (by simp) ?_
          refine AllG.cons (i := 5) rfl (fun K hK => ?_) AllG.nil
          go_simp
          refine gen_w ?_
          intro bx hwa
          have HSbx := Lib.hid (show Below a4.heap.size a4 bx from by rw [hwa]; first | exact below_al a4 _ | exact (below_al a4 _).drew)
          have HZbx := Lib.hid (show Blk bx a4.heap.size 26 #[.int .i64 0, .string ⟨#[]⟩, .string ⟨#[]⟩, .string ⟨#[]⟩, .bool false, .int .i64 0, .int .i64 0, .int .i64 0, .slice none 0 0] from by rw [hwa]; exact Blk.new a4 26 #[.int .i64 0, .string ⟨#[]⟩, .string ⟨#[]⟩, .string ⟨#[]⟩, .bool false, .int .i64 0, .int .i64 0, .int .i64 0, .slice none 0 0])
          clear hwa
          refine hK.out _ _ ⟨HSS.out _ (below_tr (below_tr (below_tr HSa1.out HSa3.out) HSa4.out) HSbx.out), .inr trivial⟩ (fun hT => ?_)
          clear hK K
          (try simp only [Act.put, List.setIfInBounds_toArray, List.set_cons_zero, List.set_cons_succ])
          refine wpAnyG_ready (rs := [6]) (by kernel_rfl) (by simp) ?_
          refine AllG.cons (i := 6) rfl (fun K hK => ?_) AllG.nil
          have HZ9 := Lib.hid (HZbx.out.later (Below.refl _ bx))
          obtain ⟨z0, z1, z2, z3, z4, z5, z6, z7, z8⟩ := HZ9.out.nine
          obtain ⟨f0, f1, f2, f3, f4, f5, f6, f7, f8⟩ := HZ9.out.ninef
          go_simp
          have HT9 := Lib.hid (HZ9.out.nine_set (.int .i64 2) (.string ⟨#[]⟩) (.string ⟨#[]⟩) (.string (tx cs)) (.bool false) (.int .i64 0) (.int .i64 0) (.int .i64 0) (.slice none 0 0)).1
          have HE9 := Lib.hid (below_nine (below_tr (below_tr (below_tr HSa1.out HSa3.out) HSa4.out) HSbx.out) (show w5.heap.size ≤ a4.heap.size from ((below_tr (below_tr HSa1.out HSa3.out) HSa4.out)).size) (.int .i64 2) (.string ⟨#[]⟩) (.string ⟨#[]⟩) (.string (tx cs)) (.bool false) (.int .i64 0) (.int .i64 0) (.int .i64 0) (.slice none 0 0))
          refine hK.out _ _ ⟨HSS.out _ HE9.out, .inr trivial⟩ (fun hT => ?_)
          clear hK K
          (try simp only [Act.put, List.setIfInBounds_toArray, List.set_cons_zero, List.set_cons_succ])
          refine wpAnyG_done (by kernel_rfl) ?_ _
          clear z0 z1 z2 z3 z4 z5 z6 z7 z8 f0 f1 f2 f3 f4 f5 f6 f7 f8
          go_wp2_with fail
          go_meet
          exact ⟨a4.heap.size, rfl, HT9, HE9⟩
        · go_simp
          refine gen_w ?_
          intro bx hwa
          have HSbx := Lib.hid (show Below a3.heap.size a3 bx from by rw [hwa]; first | exact below_al a3 _ | exact (below_al a3 _).drew)
          have HZbx := Lib.hid (show Blk bx a3.heap.size 26 #[.int .i64 0, .string ⟨#[]⟩, .string ⟨#[]⟩, .string ⟨#[]⟩, .bool false, .int .i64 0, .int .i64 0, .int .i64 0, .slice none 0 0] from by rw [hwa]; exact Blk.new a3 26 #[.int .i64 0, .string ⟨#[]⟩, .string ⟨#[]⟩, .string ⟨#[]⟩, .bool false, .int .i64 0, .int .i64 0, .int .i64 0, .slice none 0 0])
          clear hwa
          refine hK.out _ _ ⟨HSS.out _ (below_tr (below_tr HSa1.out HSa3.out) HSbx.out), .inr trivial⟩ (fun hT => ?_)
          clear hK K
          (try simp only [Act.put, List.setIfInBounds_toArray, List.set_cons_zero, List.set_cons_succ])
          refine wpAnyG_ready (rs := [4]) (by kernel_rfl) (by simp) ?_
          refine AllG.cons (i := 4) rfl (fun K hK => ?_) AllG.nil
          go_simp
          go_at_call 8
          (with_reducible refine (HJ1.out _ _ _ (HCT.out _ (below_tr (below_tr HSa1.out HSa3.out) HSbx.out)) (HAR.out.below (below_tr (below_tr HSa1.out HSa3.out) HSbx.out)) (HBa3.out.below HSbx.out)).mono ?_)
          rintro e a4 ⟨rfl, hb⟩
          have HSa4 := Lib.hid (show Below bx.heap.size bx a4 from by first | exact hb | exact (Below.refl _ bx).drew.trans hb)
          clear hb
          refine hK.out _ _ ⟨HSS.out _ (below_tr (below_tr (below_tr HSa1.out HSa3.out) HSbx.out) HSa4.out), .inr trivial⟩ (fun hT => ?_)
          clear hK K
          (try simp only [Act.put, List.setIfInBounds_toArray, List.set_cons_zero, List.set_cons_succ])
          refine wpAnyG_ready (rs := [6]) (by kernel_rfl) (by simp) ?_
          refine AllG.cons (i := 6) rfl (fun K hK => ?_) AllG.nil
          have HZ9 := Lib.hid (HZbx.out.later HSa4.out)
          obtain ⟨z0, z1, z2, z3, z4, z5, z6, z7, z8⟩ := HZ9.out.nine
          obtain ⟨f0, f1, f2, f3, f4, f5, f6, f7, f8⟩ := HZ9.out.ninef
          go_simp
          have HT9 := Lib.hid (HZ9.out.nine_set (.int .i64 2) (.string ⟨#[]⟩) (.string ⟨#[]⟩) (.string (tx cs)) (.bool false) (.int .i64 0) (.int .i64 0) (.int .i64 0) (.slice none 0 0)).1
          have HE9 := Lib.hid (below_nine (below_tr (below_tr (below_tr HSa1.out HSa3.out) HSbx.out) HSa4.out) (show w5.heap.size ≤ a3.heap.size from ((below_tr HSa1.out HSa3.out)).size) (.int .i64 2) (.string ⟨#[]⟩) (.string ⟨#[]⟩) (.string (tx cs)) (.bool false) (.int .i64 0) (.int .i64 0) (.int .i64 0) (.slice none 0 0))
          refine hK.out _ _ ⟨HSS.out _ HE9.out, .inr trivial⟩ (fun hT => ?_)
          clear hK K
          (try simp only [Act.put, List.setIfInBounds_toArray, List.set_cons_zero, List.set_cons_succ])
          refine wpAnyG_done (by kernel_rfl) ?_ _
          clear z0 z1 z2 z3 z4 z5 z6 z7 z8 f0 f1 f2 f3 f4 f5 f6 f7 f8
          go_wp2_with fail
          go_meet
          exact ⟨a3.heap.size, rfl, HT9, HE9⟩
      · go_simp
        refine gen_w ?_
        intro bx hwa
        have HSbx := Lib.hid (show Below a1.heap.size a1 bx from by rw [hwa]; first | exact below_al a1 _ | exact (below_al a1 _).drew)
        have HZbx := Lib.hid (show Blk bx a1.heap.size 26 #[.int .i64 0, .string ⟨#[]⟩, .string ⟨#[]⟩, .string ⟨#[]⟩, .bool false, .int .i64 0, .int .i64 0, .int .i64 0, .slice none 0 0] from by rw [hwa]; exact Blk.new a1 26 #[.int .i64 0, .string ⟨#[]⟩, .string ⟨#[]⟩, .string ⟨#[]⟩, .bool false, .int .i64 0, .int .i64 0, .int .i64 0, .slice none 0 0])
        clear hwa
        refine hK.out _ _ ⟨HSS.out _ (below_tr HSa1.out HSbx.out), .inr trivial⟩ (fun hT => ?_)
        clear hK K
        (try simp only [Act.put, List.setIfInBounds_toArray, List.set_cons_zero, List.set_cons_succ])
        refine wpAnyG_ready (rs := [3]) (by kernel_rfl) (by simp) ?_
        refine AllG.cons (i := 3) rfl (fun K hK => ?_) AllG.nil
        go_simp
        refine gen_w ?_
        intro a3 hwa
        have HSa3 := Lib.hid (show Below bx.heap.size bx a3 from by rw [hwa]; first | exact below_al bx _ | exact (below_al bx _).drew)
        have HBa3 := Lib.hid (show Reads 9 csV a3 (.slice (some ⟨bx.heap.size, 0, none⟩) 3 3) [tV (tx ds), bV false, (arrU 1 m (some ⟨b, o, none⟩) m cc)] from by rw [hwa]; exact reads_newN bx _ [tV (tx ds), bV false, (arrU 1 m (some ⟨b, o, none⟩) m cc)] rfl)
        clear hwa
        refine hK.out _ _ ⟨HSS.out _ (below_tr (below_tr HSa1.out HSbx.out) HSa3.out), .inr trivial⟩ (fun hT => ?_)
        clear hK K
        (try simp only [Act.put, List.setIfInBounds_toArray, List.set_cons_zero, List.set_cons_succ])
        refine wpAnyG_ready (rs := [4]) (by kernel_rfl) (by simp) ?_
        refine AllG.cons (i := 4) rfl (fun K hK => ?_) AllG.nil
        go_simp
        go_at_call 8
        (with_reducible refine (HJ1.out _ _ _ (HCT.out _ (below_tr (below_tr HSa1.out HSbx.out) HSa3.out)) (HAR.out.below (below_tr (below_tr HSa1.out HSbx.out) HSa3.out)) (HBa3.out.below (Below.refl _ a3))).mono ?_)
        rintro e a4 ⟨rfl, hb⟩
        have HSa4 := Lib.hid (show Below a3.heap.size a3 a4 from by first | exact hb | exact (Below.refl _ a3).drew.trans hb)
        clear hb
        refine hK.out _ _ ⟨HSS.out _ (below_tr (below_tr (below_tr HSa1.out HSbx.out) HSa3.out) HSa4.out), .inr trivial⟩ (fun hT => ?_)
        clear hK K
        (try simp only [Act.put, List.setIfInBounds_toArray, List.set_cons_zero, List.set_cons_succ])
        refine wpAnyG_ready (rs := [6]) (by kernel_rfl) (by simp) ?_
        refine AllG.cons (i := 6) rfl (fun K hK => ?_) AllG.nil
        have HZ9 := Lib.hid (HZbx.out.later (below_tr HSa3.out HSa4.out))
        obtain ⟨z0, z1, z2, z3, z4, z5, z6, z7, z8⟩ := HZ9.out.nine
        obtain ⟨f0, f1, f2, f3, f4, f5, f6, f7, f8⟩ := HZ9.out.ninef
        go_simp
        have HT9 := Lib.hid (HZ9.out.nine_set (.int .i64 2) (.string ⟨#[]⟩) (.string ⟨#[]⟩) (.string (tx cs)) (.bool false) (.int .i64 0) (.int .i64 0) (.int .i64 0) (.slice none 0 0)).1
        have HE9 := Lib.hid (below_nine (below_tr (below_tr (below_tr HSa1.out HSbx.out) HSa3.out) HSa4.out) (show w5.heap.size ≤ a1.heap.size from (HSa1.out).size) (.int .i64 2) (.string ⟨#[]⟩) (.string ⟨#[]⟩) (.string (tx cs)) (.bool false) (.int .i64 0) (.int .i64 0) (.int .i64 0) (.slice none 0 0))
        refine hK.out _ _ ⟨HSS.out _ HE9.out, .inr trivial⟩ (fun hT => ?_)
        clear hK K
        (try simp only [Act.put, List.setIfInBounds_toArray, List.set_cons_zero, List.set_cons_succ])
        refine wpAnyG_done (by kernel_rfl) ?_ _
        clear z0 z1 z2 z3 z4 z5 z6 z7 z8 f0 f1 f2 f3 f4 f5 f6 f7 f8
        go_wp2_with fail
        go_meet
        exact ⟨a1.heap.size, rfl, HT9, HE9⟩
    · go_simp
      refine gen_w ?_
      intro bx hwa
      have HSbx := Lib.hid (show Below w5.heap.size w5 bx from by rw [hwa]; first | exact below_al w5 _ | exact (below_al w5 _).drew)
      have HZbx := Lib.hid (show Blk bx w5.heap.size 26 #[.int .i64 0, .string ⟨#[]⟩, .string ⟨#[]⟩, .string ⟨#[]⟩, .bool false, .int .i64 0, .int .i64 0, .int .i64 0, .slice none 0 0] from by rw [hwa]; exact Blk.new w5 26 #[.int .i64 0, .string ⟨#[]⟩, .string ⟨#[]⟩, .string ⟨#[]⟩, .bool false, .int .i64 0, .int .i64 0, .int .i64 0, .slice none 0 0])
      clear hwa
      refine hK.out _ _ ⟨HSS.out _ HSbx.out, .inr trivial⟩ (fun hT => ?_)
      clear hK K
      (try simp only [Act.put, List.setIfInBounds_toArray, List.set_cons_zero, List.set_cons_succ])
      refine wpAnyG_ready (rs := [1]) (by kernel_rfl) (by simp) ?_
      refine AllG.cons (i := 1) rfl (fun K hK => ?_) AllG.nil
      go_simp
      go_at_call 13
      (with_reducible refine (bool_x false _).mono ?_)
      rintro e a1 ⟨rfl, hb⟩
      have HSa1 := Lib.hid (show Below bx.heap.size bx a1 from by first | exact hb | exact (Below.refl _ bx).drew.trans hb)
      clear hb
      refine hK.out _ _ ⟨HSS.out _ (below_tr HSbx.out HSa1.out), .inr trivial⟩ (fun hT => ?_)
      clear hK K
      (try simp only [Act.put, List.setIfInBounds_toArray, List.set_cons_zero, List.set_cons_succ])
      refine wpAnyG_ready (rs := [3]) (by kernel_rfl) (by simp) ?_
      refine AllG.cons (i := 3) rfl (fun K hK => ?_) AllG.nil
      go_simp
      refine gen_w ?_
      intro a3 hwa
      have HSa3 := Lib.hid (show Below a1.heap.size a1 a3 from by rw [hwa]; first | exact below_al a1 _ | exact (below_al a1 _).drew)
      have HBa3 := Lib.hid (show Reads 9 csV a3 (.slice (some ⟨a1.heap.size, 0, none⟩) 3 3) [tV (tx ds), bV false, (arrU 1 m (some ⟨b, o, none⟩) m cc)] from by rw [hwa]; exact reads_newN a1 _ [tV (tx ds), bV false, (arrU 1 m (some ⟨b, o, none⟩) m cc)] rfl)
      clear hwa
      refine hK.out _ _ ⟨HSS.out _ (below_tr (below_tr HSbx.out HSa1.out) HSa3.out), .inr trivial⟩ (fun hT => ?_)
      clear hK K
      (try simp only [Act.put, List.setIfInBounds_toArray, List.set_cons_zero, List.set_cons_succ])
      refine wpAnyG_ready (rs := [4]) (by kernel_rfl) (by simp) ?_
      refine AllG.cons (i := 4) rfl (fun K hK => ?_) AllG.nil
      go_simp
      go_at_call 8
      (with_reducible refine (HJ1.out _ _ _ (HCT.out _ (below_tr (below_tr HSbx.out HSa1.out) HSa3.out)) (HAR.out.below (below_tr (below_tr HSbx.out HSa1.out) HSa3.out)) (HBa3.out.below (Below.refl _ a3))).mono ?_)
      rintro e a4 ⟨rfl, hb⟩
      have HSa4 := Lib.hid (show Below a3.heap.size a3 a4 from by first | exact hb | exact (Below.refl _ a3).drew.trans hb)
      clear hb
      refine hK.out _ _ ⟨HSS.out _ (below_tr (below_tr (below_tr HSbx.out HSa1.out) HSa3.out) HSa4.out), .inr trivial⟩ (fun hT => ?_)
      clear hK K
      (try simp only [Act.put, List.setIfInBounds_toArray, List.set_cons_zero, List.set_cons_succ])
      refine wpAnyG_ready (rs := [6]) (by kernel_rfl) (by simp) ?_
      refine AllG.cons (i := 6) rfl (fun K hK => ?_) AllG.nil
      have HZ9 := Lib.hid (HZbx.out.later (below_tr (below_tr HSa1.out HSa3.out) HSa4.out))
      obtain ⟨z0, z1, z2, z3, z4, z5, z6, z7, z8⟩ := HZ9.out.nine
      obtain ⟨f0, f1, f2, f3, f4, f5, f6, f7, f8⟩ := HZ9.out.ninef
      go_simp
      have HT9 := Lib.hid (HZ9.out.nine_set (.int .i64 2) (.string ⟨#[]⟩) (.string ⟨#[]⟩) (.string (tx cs)) (.bool false) (.int .i64 0) (.int .i64 0) (.int .i64 0) (.slice none 0 0)).1
      have HE9 := Lib.hid (below_nine (below_tr (below_tr (below_tr HSbx.out HSa1.out) HSa3.out) HSa4.out) (show w5.heap.size ≤ w5.heap.size from Nat.le_refl _) (.int .i64 2) (.string ⟨#[]⟩) (.string ⟨#[]⟩) (.string (tx cs)) (.bool false) (.int .i64 0) (.int .i64 0) (.int .i64 0) (.slice none 0 0))
      refine hK.out _ _ ⟨HSS.out _ HE9.out, .inr trivial⟩ (fun hT => ?_)
      clear hK K
      (try simp only [Act.put, List.setIfInBounds_toArray, List.set_cons_zero, List.set_cons_succ])
      refine wpAnyG_done (by kernel_rfl) ?_ _
      clear z0 z1 z2 z3 z4 z5 z6 z7 z8 f0 f1 f2 f3 f4 f5 f6 f7 f8
      go_wp2_with fail
      go_meet
      exact ⟨w5.heap.size, rfl, HT9, HE9⟩
  case rest =>
  obtain ⟨J, rfl, HPJ, HBR⟩ := hcut
  have HPVc := Lib.hid (HPVn.out.later HBR.out)
  have HPWc := Lib.hid (HPWn.out.later HBR.out)
  have HPXc := Lib.hid (HPXn.out.later HBR.out)
  have HPLc := Lib.hid (HPL.out.later HBR.out)
  have HARc := Lib.hid (HAR.out.below HBR.out)
  have HBW := Lib.hid (HB.out.trans (HBR.out.mono HB.out.size))
  clear HSS HCT HJ1 HJJ1 HPVn HPWn HPXn HPL HAR HB HBR
  have HAR := HARc
  clear HARc
  have HJ2 := Lib.hid (HJJ2.out b o cc)
  have HCT := Lib.hid (show ∀ w', Below wc.heap.size wc w' → VEnv w' from fun w' h => HE.out.below (HBW.out.trans (h.mono HBW.out.size)))
  have HSS := Lib.hid (show ∀ w', Below wc.heap.size wc w' → w'.cell? ⟨J, 0, none⟩ = some (.int .i64 2) ∧ w'.cell? ⟨J, 1, none⟩ = some (.string ⟨#[]⟩) ∧ w'.cell? ⟨J, 2, none⟩ = some (.string ⟨#[]⟩) ∧ w'.cell? ⟨J, 3, none⟩ = some (.string (tx cs)) ∧ w'.cell? ⟨J, 4, none⟩ = some (.bool false) ∧ w'.cell? ⟨J, 5, none⟩ = some (.int .i64 0) ∧ w'.cell? ⟨J, 6, none⟩ = some (.int .i64 0) ∧ w'.cell? ⟨J, 7, none⟩ = some (.int .i64 0) ∧ w'.cell? ⟨J, 8, none⟩ = some (.slice none 0 0) ∧ w'.cell? ⟨V, 0, none⟩ = some (.int .i64 2) ∧ w'.cell? ⟨V, 1, none⟩ = some (.string ⟨#[]⟩) ∧ w'.cell? ⟨V, 2, none⟩ = some (.string ⟨#[]⟩) ∧ w'.cell? ⟨V, 3, none⟩ = some (.string (tx cs)) ∧ w'.cell? ⟨V, 4, none⟩ = some (.bool false) ∧ w'.cell? ⟨V, 5, none⟩ = some (.int .i64 0) ∧ w'.cell? ⟨V, 6, none⟩ = some (.int .i64 0) ∧ w'.cell? ⟨V, 7, none⟩ = some (.int .i64 0) ∧ w'.cell? ⟨V, 8, none⟩ = some (.slice none 0 0) ∧ w'.cell? ⟨X, 0, none⟩ = some (.int .i64 2) ∧ w'.cell? ⟨X, 1, none⟩ = some (.string ⟨#[]⟩) ∧ w'.cell? ⟨X, 2, none⟩ = some (.string ⟨#[]⟩) ∧ w'.cell? ⟨X, 3, none⟩ = some (.string (tx es)) ∧ w'.cell? ⟨X, 4, none⟩ = some (.bool false) ∧ w'.cell? ⟨X, 5, none⟩ = some (.int .i64 0) ∧ w'.cell? ⟨X, 6, none⟩ = some (.int .i64 0) ∧ w'.cell? ⟨X, 7, none⟩ = some (.int .i64 0) ∧ w'.cell? ⟨X, 8, none⟩ = some (.slice none 0 0) ∧ w'.cell? ⟨Lk, 0, none⟩ = some (.int .i64 5) ∧ w'.cell? ⟨Lk, 1, none⟩ = some (.string ⟨#[]⟩) ∧ w'.cell? ⟨Lk, 2, none⟩ = some (.string ⟨#[]⟩) ∧ w'.cell? ⟨Lk, 3, none⟩ = some (.string ⟨#[]⟩) ∧ w'.cell? ⟨Lk, 4, none⟩ = some (.bool false) ∧ w'.cell? ⟨Lk, 5, none⟩ = some (.int .i64 0) ∧ w'.cell? ⟨Lk, 6, none⟩ = some (.int .i64 1) ∧ w'.cell? ⟨Lk, 7, none⟩ = some (.int .i64 (m : Int)) ∧ w'.cell? ⟨Lk, 8, none⟩ = some (.slice (some ⟨b, o, none⟩) m cc) ∧ w'.cell? ⟨Wd, 0, none⟩ = some (.int .i64 2) ∧ w'.cell? ⟨Wd, 1, none⟩ = some (.string ⟨#[]⟩) ∧ w'.cell? ⟨Wd, 2, none⟩ = some (.string ⟨#[]⟩) ∧ w'.cell? ⟨Wd, 3, none⟩ = some (.string (tx ds)) ∧ w'.cell? ⟨Wd, 4, none⟩ = some (.bool false) ∧ w'.cell? ⟨Wd, 5, none⟩ = some (.int .i64 0) ∧ w'.cell? ⟨Wd, 6, none⟩ = some (.int .i64 0) ∧ w'.cell? ⟨Wd, 7, none⟩ = some (.int .i64 0) ∧ w'.cell? ⟨Wd, 8, none⟩ = some (.slice none 0 0) from fun w' h => ⟨(HPJ.out.later h).cell 0, (HPJ.out.later h).cell 1, (HPJ.out.later h).cell 2, (HPJ.out.later h).cell 3, (HPJ.out.later h).cell 4, (HPJ.out.later h).cell 5, (HPJ.out.later h).cell 6, (HPJ.out.later h).cell 7, (HPJ.out.later h).cell 8, (HPVc.out.later h).cell 0, (HPVc.out.later h).cell 1, (HPVc.out.later h).cell 2, (HPVc.out.later h).cell 3, (HPVc.out.later h).cell 4, (HPVc.out.later h).cell 5, (HPVc.out.later h).cell 6, (HPVc.out.later h).cell 7, (HPVc.out.later h).cell 8, (HPXc.out.later h).cell 0, (HPXc.out.later h).cell 1, (HPXc.out.later h).cell 2, (HPXc.out.later h).cell 3, (HPXc.out.later h).cell 4, (HPXc.out.later h).cell 5, (HPXc.out.later h).cell 6, (HPXc.out.later h).cell 7, (HPXc.out.later h).cell 8, (HPLc.out.later h).cell 0, (HPLc.out.later h).cell 1, (HPLc.out.later h).cell 2, (HPLc.out.later h).cell 3, (HPLc.out.later h).cell 4, (HPLc.out.later h).cell 5, (HPLc.out.later h).cell 6, (HPLc.out.later h).cell 7, (HPLc.out.later h).cell 8, (HPWc.out.later h).cell 0, (HPWc.out.later h).cell 1, (HPWc.out.later h).cell 2, (HPWc.out.later h).cell 3, (HPWc.out.later h).cell 4, (HPWc.out.later h).cell 5, (HPWc.out.later h).cell 6, (HPWc.out.later h).cell 7, (HPWc.out.later h).cell 8⟩)
  go_upto_region 10 with fail
  refine wp_region_G (S1 := fun w' => w'.cell? ⟨J, 0, none⟩ = some (.int .i64 2) ∧ w'.cell? ⟨J, 1, none⟩ = some (.string ⟨#[]⟩) ∧ w'.cell? ⟨J, 2, none⟩ = some (.string ⟨#[]⟩) ∧ w'.cell? ⟨J, 3, none⟩ = some (.string (tx cs)) ∧ w'.cell? ⟨J, 4, none⟩ = some (.bool false) ∧ w'.cell? ⟨J, 5, none⟩ = some (.int .i64 0) ∧ w'.cell? ⟨J, 6, none⟩ = some (.int .i64 0) ∧ w'.cell? ⟨J, 7, none⟩ = some (.int .i64 0) ∧ w'.cell? ⟨J, 8, none⟩ = some (.slice none 0 0) ∧ w'.cell? ⟨V, 0, none⟩ = some (.int .i64 2) ∧ w'.cell? ⟨V, 1, none⟩ = some (.string ⟨#[]⟩) ∧ w'.cell? ⟨V, 2, none⟩ = some (.string ⟨#[]⟩) ∧ w'.cell? ⟨V, 3, none⟩ = some (.string (tx cs)) ∧ w'.cell? ⟨V, 4, none⟩ = some (.bool false) ∧ w'.cell? ⟨V, 5, none⟩ = some (.int .i64 0) ∧ w'.cell? ⟨V, 6, none⟩ = some (.int .i64 0) ∧ w'.cell? ⟨V, 7, none⟩ = some (.int .i64 0) ∧ w'.cell? ⟨V, 8, none⟩ = some (.slice none 0 0) ∧ w'.cell? ⟨X, 0, none⟩ = some (.int .i64 2) ∧ w'.cell? ⟨X, 1, none⟩ = some (.string ⟨#[]⟩) ∧ w'.cell? ⟨X, 2, none⟩ = some (.string ⟨#[]⟩) ∧ w'.cell? ⟨X, 3, none⟩ = some (.string (tx es)) ∧ w'.cell? ⟨X, 4, none⟩ = some (.bool false) ∧ w'.cell? ⟨X, 5, none⟩ = some (.int .i64 0) ∧ w'.cell? ⟨X, 6, none⟩ = some (.int .i64 0) ∧ w'.cell? ⟨X, 7, none⟩ = some (.int .i64 0) ∧ w'.cell? ⟨X, 8, none⟩ = some (.slice none 0 0) ∧ w'.cell? ⟨Lk, 0, none⟩ = some (.int .i64 5) ∧ w'.cell? ⟨Lk, 1, none⟩ = some (.string ⟨#[]⟩) ∧ w'.cell? ⟨Lk, 2, none⟩ = some (.string ⟨#[]⟩) ∧ w'.cell? ⟨Lk, 3, none⟩ = some (.string ⟨#[]⟩) ∧ w'.cell? ⟨Lk, 4, none⟩ = some (.bool false) ∧ w'.cell? ⟨Lk, 5, none⟩ = some (.int .i64 0) ∧ w'.cell? ⟨Lk, 6, none⟩ = some (.int .i64 1) ∧ w'.cell? ⟨Lk, 7, none⟩ = some (.int .i64 (m : Int)) ∧ w'.cell? ⟨Lk, 8, none⟩ = some (.slice (some ⟨b, o, none⟩) m cc) ∧ w'.cell? ⟨Wd, 0, none⟩ = some (.int .i64 2) ∧ w'.cell? ⟨Wd, 1, none⟩ = some (.string ⟨#[]⟩) ∧ w'.cell? ⟨Wd, 2, none⟩ = some (.string ⟨#[]⟩) ∧ w'.cell? ⟨Wd, 3, none⟩ = some (.string (tx ds)) ∧ w'.cell? ⟨Wd, 4, none⟩ = some (.bool false) ∧ w'.cell? ⟨Wd, 5, none⟩ = some (.int .i64 0) ∧ w'.cell? ⟨Wd, 6, none⟩ = some (.int .i64 0) ∧ w'.cell? ⟨Wd, 7, none⟩ = some (.int .i64 0) ∧ w'.cell? ⟨Wd, 8, none⟩ = some (.slice none 0 0)) (S2 := fun _ => True) (d := 99) (by kernel_rfl) (HSS.out _ (Below.refl _ wc).drew) trivial (fun hT => ?_)
  refine wpAnyG_take1d (i := 0) (v := ?_) rfl rfl (by kernel_rfl) (by kernel_rfl) (by kernel_rfl) (by kernel_rfl) (fun _ _ _ h => h) (Or.inl ⟨by rfl, ?_⟩) (by assumption) (fun hT => ?_)
  rotate_left
  · intro w hSw
    (try dsimp only at hSw)
    go_simp
    (try with_reducible rfl)
  (try simp only [Act.put, List.setIfInBounds_toArray, List.set_cons_zero, List.set_cons_succ])
  refine wpAnyG_take1d (i := 1) (v := ?_) rfl rfl (by kernel_rfl) (by kernel_rfl) (by kernel_rfl) (by kernel_rfl) (fun _ _ _ h => h) (Or.inl ⟨by rfl, ?_⟩) (by assumption) (fun hT => ?_)
  rotate_left
  · intro w hSw
    (try dsimp only at hSw)
    go_simp
    (try with_reducible rfl)
  (try simp only [Act.put, List.setIfInBounds_toArray, List.set_cons_zero, List.set_cons_succ])
  refine wpAnyG_ready (rs := [2]) (by kernel_rfl) (by simp) ?_
  refine AllG.cons (i := 2) rfl (fun K hK => ?_) AllG.nil
  go_simp
  go_at_call 12
  (with_reducible refine (same_t (tx cs) _).mono ?_)
  rintro e d2 ⟨rfl, hb⟩
  have HSd2 := Lib.hid (show Below wc.heap.size wc d2 from by first | exact hb | exact (Below.refl _ wc).drew.trans hb)
  clear hb
  refine hK.out _ _ ⟨HSS.out _ HSd2.out, .inr trivial⟩ (fun hT => ?_)
  clear hK K
  (try simp only [Act.put, List.setIfInBounds_toArray, List.set_cons_zero, List.set_cons_succ])
  refine wpAnyG_take1d (i := 3) (v := ?_) rfl rfl (by kernel_rfl) (by kernel_rfl) (by kernel_rfl) (by kernel_rfl) (fun _ _ _ h => h) (Or.inl ⟨by rfl, ?_⟩) (by assumption) (fun hT => ?_)
  rotate_left
  · intro w hSw
    (try dsimp only at hSw)
    go_simp
    (try with_reducible rfl)
  (try simp only [Act.put, List.setIfInBounds_toArray, List.set_cons_zero, List.set_cons_succ])
  refine wpAnyG_take1d (i := 4) (v := ?_) rfl rfl (by kernel_rfl) (by kernel_rfl) (by kernel_rfl) (by kernel_rfl) (fun _ _ _ h => h) (Or.inl ⟨by rfl, ?_⟩) (by assumption) (fun hT => ?_)
  rotate_left
  · intro w hSw
    (try dsimp only at hSw)
    go_simp
    (try with_reducible rfl)
  (try simp only [Act.put, List.setIfInBounds_toArray, List.set_cons_zero, List.set_cons_succ])
  refine wpAnyG_take1d (i := 6) (v := ?_) rfl rfl (by kernel_rfl) (by kernel_rfl) (by kernel_rfl) (by kernel_rfl) (fun _ _ _ h => h) (Or.inl ⟨by rfl, ?_⟩) (by assumption) (fun hT => ?_)
  rotate_left
  · intro w hSw
    (try dsimp only at hSw)
    go_simp
    (try with_reducible rfl)
  (try simp only [Act.put, List.setIfInBounds_toArray, List.set_cons_zero, List.set_cons_succ])
  refine wpAnyG_take1d (i := 9) (v := ?_) rfl rfl (by kernel_rfl) (by kernel_rfl) (by kernel_rfl) (by kernel_rfl) (fun _ _ _ h => h) (Or.inl ⟨by rfl, ?_⟩) (by assumption) (fun hT => ?_)
  rotate_left
  · intro w hSw
    (try dsimp only at hSw)
    go_simp
    (try with_reducible rfl)
  (try simp only [Act.put, List.setIfInBounds_toArray, List.set_cons_zero, List.set_cons_succ])
  refine wpAnyG_take1d (i := 10) (v := ?_) rfl rfl (by kernel_rfl) (by kernel_rfl) (by kernel_rfl) (by kernel_rfl) (fun _ _ _ h => h) (Or.inl ⟨by rfl, ?_⟩) (by assumption) (fun hT => ?_)
  rotate_left
  · intro w hSw
    (try dsimp only at hSw)
    go_simp
    (try with_reducible rfl)
  (try simp only [Act.put, List.setIfInBounds_toArray, List.set_cons_zero, List.set_cons_succ])
  refine wpAnyG_take1d (i := 11) (v := ?_) rfl rfl (by kernel_rfl) (by kernel_rfl) (by kernel_rfl) (by kernel_rfl) (fun _ _ _ h => h) (Or.inl ⟨by rfl, ?_⟩) (by assumption) (fun hT => ?_)
  rotate_left
  · intro w hSw
    (try dsimp only at hSw)
    go_simp
    (try with_reducible rfl)
  (try simp only [Act.put, List.setIfInBounds_toArray, List.set_cons_zero, List.set_cons_succ])
  refine wpAnyG_ready (rs := [5, 12]) (by kernel_rfl) (by simp) ?_
  refine AllG.cons (i := 5) rfl (fun K hK => ?_) (AllG.cons (i := 12) rfl (fun K hK => ?_) AllG.nil)
  · go_simp
    go_at_call 13
    (with_reducible refine (bool_x false _).mono ?_)
    rintro e d5 ⟨rfl, hb⟩
    have HSd5 := Lib.hid (show Below d2.heap.size d2 d5 from by first | exact hb | exact (Below.refl _ d2).drew.trans hb)
    clear hb
    refine hK.out _ _ ⟨HSS.out _ (below_tr HSd2.out HSd5.out), .inr trivial⟩ (fun hT => ?_)
    clear hK K
    (try simp only [Act.put, List.setIfInBounds_toArray, List.set_cons_zero, List.set_cons_succ])
    refine wpAnyG_ready (rs := [7, 12]) (by kernel_rfl) (by simp) ?_
    refine AllG.cons (i := 7) rfl (fun K hK => ?_) (AllG.cons (i := 12) rfl (fun K hK => ?_) AllG.nil)
    · go_simp
      refine gen_w ?_
      intro d7 hwa
      have HSd7 := Lib.hid (show Below d5.heap.size d5 d7 from by rw [hwa]; first | exact below_al d5 _ | exact (below_al d5 _).drew)
      have HBd7 := Lib.hid (show Reads 9 csV d7 (.slice (some ⟨d5.heap.size, 0, none⟩) 3 3) [tV (tx es), bV false, (arrU 1 m (some ⟨b, o, none⟩) m cc)] from by rw [hwa]; exact reads_newN d5 _ [tV (tx es), bV false, (arrU 1 m (some ⟨b, o, none⟩) m cc)] rfl)
      clear hwa
      refine hK.out _ _ ⟨HSS.out _ (below_tr (below_tr HSd2.out HSd5.out) HSd7.out), .inr trivial⟩ (fun hT => ?_)
      clear hK K
      (try simp only [Act.put, List.setIfInBounds_toArray, List.set_cons_zero, List.set_cons_succ])
      refine wpAnyG_ready (rs := [8, 12]) (by kernel_rfl) (by simp) ?_
      refine AllG.cons (i := 8) rfl (fun K hK => ?_) (AllG.cons (i := 12) rfl (fun K hK => ?_) AllG.nil)
      · go_simp
        go_at_call 8
        (with_reducible refine (HJ2.out _ _ _ (HCT.out _ (below_tr (below_tr HSd2.out HSd5.out) HSd7.out)) (HAR.out.below (below_tr (below_tr HSd2.out HSd5.out) HSd7.out)) (HBd7.out.below (Below.refl _ d7))).mono ?_)
        rintro e d8 ⟨rfl, hb⟩
        have HSd8 := Lib.hid (show Below d7.heap.size d7 d8 from by first | exact hb | exact (Below.refl _ d7).drew.trans hb)
        clear hb
        refine hK.out _ _ ⟨HSS.out _ (below_tr (below_tr (below_tr HSd2.out HSd5.out) HSd7.out) HSd8.out), .inr trivial⟩ (fun hT => ?_)
        clear hK K
        (try simp only [Act.put, List.setIfInBounds_toArray, List.set_cons_zero, List.set_cons_succ])
        refine wpAnyG_ready (rs := [12]) (by kernel_rfl) (by simp) ?_
        refine AllG.cons (i := 12) rfl (fun K hK => ?_) AllG.nil
        go_simp
        refine gen_w ?_
        intro d12 hwa
        have HSd12 := Lib.hid (show Below d8.heap.size d8 d12 from by rw [hwa]; first | exact below_al d8 _ | exact (below_al d8 _).drew)
        have HBd12 := Lib.hid (show Reads 9 csV d12 (.slice (some ⟨d8.heap.size, 0, none⟩) 3 3) [tV (tx cs), tV (tx ds), tV (tx es)] from by rw [hwa]; exact reads_newN d8 _ [tV (tx cs), tV (tx ds), tV (tx es)] rfl)
        clear hwa
        refine hK.out _ _ ⟨HSS.out _ (below_tr (below_tr (below_tr (below_tr HSd2.out HSd5.out) HSd7.out) HSd8.out) HSd12.out), .inr trivial⟩ (fun hT => ?_)
        clear hK K
        (try simp only [Act.put, List.setIfInBounds_toArray, List.set_cons_zero, List.set_cons_succ])
        refine wpAnyG_ready (rs := [13]) (by kernel_rfl) (by simp) ?_
        refine AllG.cons (i := 13) rfl (fun K hK => ?_) AllG.nil
        go_simp
        go_at_call 8
        (with_reducible refine (HSU.out _ _ _ (HCT.out _ (below_tr (below_tr (below_tr (below_tr HSd2.out HSd5.out) HSd7.out) HSd8.out) HSd12.out)) (HBd12.out.below (Below.refl _ d12))).mono ?_)
        rintro e d13 ⟨rfl, hb⟩
        have HSd13 := Lib.hid (show Below d12.heap.size d12 d13 from by first | exact hb | exact (Below.refl _ d12).drew.trans hb)
        clear hb
        refine hK.out _ _ ⟨HSS.out _ (below_tr (below_tr (below_tr (below_tr (below_tr HSd2.out HSd5.out) HSd7.out) HSd8.out) HSd12.out) HSd13.out), .inr trivial⟩ (fun hT => ?_)
        clear hK K
        (try simp only [Act.put, List.setIfInBounds_toArray, List.set_cons_zero, List.set_cons_succ])
        refine wpAnyG_ready (rs := [14]) (by kernel_rfl) (by simp) ?_
        refine AllG.cons (i := 14) rfl (fun K hK => ?_) AllG.nil
        go_simp
        go_at_call 12
        (with_reducible refine (same_t sx _).mono ?_)
        rintro e d14 ⟨rfl, hb⟩
        have HSd14 := Lib.hid (show Below d13.heap.size d13 d14 from by first | exact hb | exact (Below.refl _ d13).drew.trans hb)
        clear hb
        refine hK.out _ _ ⟨HSS.out _ (below_tr (below_tr (below_tr (below_tr (below_tr (below_tr HSd2.out HSd5.out) HSd7.out) HSd8.out) HSd12.out) HSd13.out) HSd14.out), .inr trivial⟩ (fun hT => ?_)
        clear hK K
        (try simp only [Act.put, List.setIfInBounds_toArray, List.set_cons_zero, List.set_cons_succ])
        refine wpAnyG_take1d (i := 15) (v := ?_) rfl rfl (by kernel_rfl) (by kernel_rfl) (by kernel_rfl) (by kernel_rfl) (fun _ _ _ h => h) (Or.inl ⟨by rfl, ?_⟩) (by assumption) (fun hT => ?_)
        rotate_left
        · intro w hSw
          (try dsimp only at hSw)
          go_simp
          (try with_reducible rfl)
        (try simp only [Act.put, List.setIfInBounds_toArray, List.set_cons_zero, List.set_cons_succ])
        refine wpAnyG_take1d (i := 16) (v := ?_) rfl rfl (by kernel_rfl) (by kernel_rfl) (by kernel_rfl) (by kernel_rfl) (fun _ _ _ h => h) (Or.inl ⟨by rfl, ?_⟩) (by assumption) (fun hT => ?_)
        rotate_left
        · intro w hSw
          (try dsimp only at hSw)
          go_simp
          (try with_reducible rfl)
        (try simp only [Act.put, List.setIfInBounds_toArray, List.set_cons_zero, List.set_cons_succ])
        refine wpAnyG_done (by kernel_rfl) ?_ _
        clear hT
        go_wp2_with fail
        go_ret
        exact ⟨rfl, HBW.out.trans ((below_tr (below_tr (below_tr (below_tr (below_tr (below_tr HSd2.out HSd5.out) HSd7.out) HSd8.out) HSd12.out) HSd13.out) HSd14.out).mono HBW.out.size)⟩
      · go_simp
        refine gen_w ?_
        intro d12 hwa
        have HSd12 := Lib.hid (show Below d7.heap.size d7 d12 from by rw [hwa]; first | exact below_al d7 _ | exact (below_al d7 _).drew)
        have HBd12 := Lib.hid (show Reads 9 csV d12 (.slice (some ⟨d7.heap.size, 0, none⟩) 3 3) [tV (tx cs), tV (tx ds), tV (tx es)] from by rw [hwa]; exact reads_newN d7 _ [tV (tx cs), tV (tx ds), tV (tx es)] rfl)
        clear hwa
        refine hK.out _ _ ⟨HSS.out _ (below_tr (below_tr (below_tr HSd2.out HSd5.out) HSd7.out) HSd12.out), .inr trivial⟩ (fun hT => ?_)
        clear hK K
        (try simp only [Act.put, List.setIfInBounds_toArray, List.set_cons_zero, List.set_cons_succ])
        refine wpAnyG_ready (rs := [8]) (by kernel_rfl) (by simp) ?_
        refine AllG.cons (i := 8) rfl (fun K hK => ?_) AllG.nil
        go_simp
        go_at_call 8
        (with_reducible refine (HJ2.out _ _ _ (HCT.out _ (below_tr (below_tr (below_tr HSd2.out HSd5.out) HSd7.out) HSd12.out)) (HAR.out.below (below_tr (below_tr (below_tr HSd2.out HSd5.out) HSd7.out) HSd12.out)) (HBd7.out.below HSd12.out)).mono ?_)
        rintro e d8 ⟨rfl, hb⟩
        have HSd8 := Lib.hid (show Below d12.heap.size d12 d8 from by first | exact hb | exact (Below.refl _ d12).drew.trans hb)
        clear hb
        refine hK.out _ _ ⟨HSS.out _ (below_tr (below_tr (below_tr (below_tr HSd2.out HSd5.out) HSd7.out) HSd12.out) HSd8.out), .inr trivial⟩ (fun hT => ?_)
        clear hK K
        (try simp only [Act.put, List.setIfInBounds_toArray, List.set_cons_zero, List.set_cons_succ])
        refine wpAnyG_ready (rs := [13]) (by kernel_rfl) (by simp) ?_
        refine AllG.cons (i := 13) rfl (fun K hK => ?_) AllG.nil
        go_simp
        go_at_call 8
        (with_reducible refine (HSU.out _ _ _ (HCT.out _ (below_tr (below_tr (below_tr (below_tr HSd2.out HSd5.out) HSd7.out) HSd12.out) HSd8.out)) (HBd12.out.below HSd8.out)).mono ?_)
        rintro e d13 ⟨rfl, hb⟩
        have HSd13 := Lib.hid (show Below d8.heap.size d8 d13 from by first | exact hb | exact (Below.refl _ d8).drew.trans hb)
        clear hb
        refine hK.out _ _ ⟨HSS.out _ (below_tr (below_tr (below_tr (below_tr (below_tr HSd2.out HSd5.out) HSd7.out) HSd12.out) HSd8.out) HSd13.out), .inr trivial⟩ (fun hT => ?_)
        clear hK K
        (try simp only [Act.put, List.setIfInBounds_toArray, List.set_cons_zero, List.set_cons_succ])
        refine wpAnyG_ready (rs := [14]) (by kernel_rfl) (by simp) ?_
        refine AllG.cons (i := 14) rfl (fun K hK => ?_) AllG.nil
        go_simp
        go_at_call 12
        (with_reducible refine (same_t sx _).mono ?_)
        rintro e d14 ⟨rfl, hb⟩
        have HSd14 := Lib.hid (show Below d13.heap.size d13 d14 from by first | exact hb | exact (Below.refl _ d13).drew.trans hb)
        clear hb
        refine hK.out _ _ ⟨HSS.out _ (below_tr (below_tr (below_tr (below_tr (below_tr (below_tr HSd2.out HSd5.out) HSd7.out) HSd12.out) HSd8.out) HSd13.out) HSd14.out), .inr trivial⟩ (fun hT => ?_)
        clear hK K
        (try simp only [Act.put, List.setIfInBounds_toArray, List.set_cons_zero, List.set_cons_succ])
        refine wpAnyG_take1d (i := 15) (v := ?_) rfl rfl (by kernel_rfl) (by kernel_rfl) (by kernel_rfl) (by kernel_rfl) (fun _ _ _ h => h) (Or.inl ⟨by rfl, ?_⟩) (by assumption) (fun hT => ?_)
        rotate_left
        · intro w hSw
          (try dsimp only at hSw)
          go_simp
          (try with_reducible rfl)
        (try simp only [Act.put, List.setIfInBounds_toArray, List.set_cons_zero, List.set_cons_succ])
        refine wpAnyG_take1d (i := 16) (v := ?_) rfl rfl (by kernel_rfl) (by kernel_rfl) (by kernel_rfl) (by kernel_rfl) (fun _ _ _ h => h) (Or.inl ⟨by rfl, ?_⟩) (by assumption) (fun hT => ?_)
        rotate_left
        · intro w hSw
          (try dsimp only at hSw)
          go_simp
          (try with_reducible rfl)
        (try simp only [Act.put, List.setIfInBounds_toArray, List.set_cons_zero, List.set_cons_succ])
        refine wpAnyG_done (by kernel_rfl) ?_ _
        clear hT
        go_wp2_with fail
        go_ret
        exact ⟨rfl, HBW.out.trans ((below_tr (below_tr (below_tr (below_tr (below_tr (below_tr HSd2.out HSd5.out) HSd7.out) HSd12.out) HSd8.out) HSd13.out) HSd14.out).mono HBW.out.size)⟩
    · go_simp
      refine gen_w ?_
      intro d12 hwa
      have HSd12 := Lib.hid (show Below d5.heap.size d5 d12 from by rw [hwa]; first | exact below_al d5 _ | exact (below_al d5 _).drew)
      have HBd12 := Lib.hid (show Reads 9 csV d12 (.slice (some ⟨d5.heap.size, 0, none⟩) 3 3) [tV (tx cs), tV (tx ds), tV (tx es)] from by rw [hwa]; exact reads_newN d5 _ [tV (tx cs), tV (tx ds), tV (tx es)] rfl)
      clear hwa
      refine hK.out _ _ ⟨HSS.out _ (below_tr (below_tr HSd2.out HSd5.out) HSd12.out), .inr trivial⟩ (fun hT => ?_)
      clear hK K
      (try simp only [Act.put, List.setIfInBounds_toArray, List.set_cons_zero, List.set_cons_succ])
      refine wpAnyG_ready (rs := [7]) (by kernel_rfl) (by simp) ?_
      refine AllG.cons (i := 7) rfl (fun K hK => ?_) AllG.nil
      go_simp
      refine gen_w ?_
      intro d7 hwa
      have HSd7 := Lib.hid (show Below d12.heap.size d12 d7 from by rw [hwa]; first | exact below_al d12 _ | exact (below_al d12 _).drew)
      have HBd7 := Lib.hid (show Reads 9 csV d7 (.slice (some ⟨d12.heap.size, 0, none⟩) 3 3) [tV (tx es), bV false, (arrU 1 m (some ⟨b, o, none⟩) m cc)] from by rw [hwa]; exact reads_newN d12 _ [tV (tx es), bV false, (arrU 1 m (some ⟨b, o, none⟩) m cc)] rfl)
      clear hwa
      refine hK.out _ _ ⟨HSS.out _ (below_tr (below_tr (below_tr HSd2.out HSd5.out) HSd12.out) HSd7.out), .inr trivial⟩ (fun hT => ?_)
      clear hK K
      (try simp only [Act.put, List.setIfInBounds_toArray, List.set_cons_zero, List.set_cons_succ])
      refine wpAnyG_ready (rs := [8]) (by kernel_rfl) (by simp) ?_
      refine AllG.cons (i := 8) rfl (fun K hK => ?_) AllG.nil
      go_simp
      go_at_call 8
      (with_reducible refine (HJ2.out _ _ _ (HCT.out _ (below_tr (below_tr (below_tr HSd2.out HSd5.out) HSd12.out) HSd7.out)) (HAR.out.below (below_tr (below_tr (below_tr HSd2.out HSd5.out) HSd12.out) HSd7.out)) (HBd7.out.below (Below.refl _ d7))).mono ?_)
      rintro e d8 ⟨rfl, hb⟩
      have HSd8 := Lib.hid (show Below d7.heap.size d7 d8 from by first | exact hb | exact (Below.refl _ d7).drew.trans hb)
      clear hb
      refine hK.out _ _ ⟨HSS.out _ (below_tr (below_tr (below_tr (below_tr HSd2.out HSd5.out) HSd12.out) HSd7.out) HSd8.out), .inr trivial⟩ (fun hT => ?_)
      clear hK K
      (try simp only [Act.put, List.setIfInBounds_toArray, List.set_cons_zero, List.set_cons_succ])
      refine wpAnyG_ready (rs := [13]) (by kernel_rfl) (by simp) ?_
      refine AllG.cons (i := 13) rfl (fun K hK => ?_) AllG.nil
      go_simp
      go_at_call 8
      (with_reducible refine (HSU.out _ _ _ (HCT.out _ (below_tr (below_tr (below_tr (below_tr HSd2.out HSd5.out) HSd12.out) HSd7.out) HSd8.out)) (HBd12.out.below (below_tr HSd7.out HSd8.out))).mono ?_)
      rintro e d13 ⟨rfl, hb⟩
      have HSd13 := Lib.hid (show Below d8.heap.size d8 d13 from by first | exact hb | exact (Below.refl _ d8).drew.trans hb)
      clear hb
      refine hK.out _ _ ⟨HSS.out _ (below_tr (below_tr (below_tr (below_tr (below_tr HSd2.out HSd5.out) HSd12.out) HSd7.out) HSd8.out) HSd13.out), .inr trivial⟩ (fun hT => ?_)
      clear hK K
      (try simp only [Act.put, List.setIfInBounds_toArray, List.set_cons_zero, List.set_cons_succ])
      refine wpAnyG_ready (rs := [14]) (by kernel_rfl) (by simp) ?_
      refine AllG.cons (i := 14) rfl (fun K hK => ?_) AllG.nil
      go_simp
      go_at_call 12
      (with_reducible refine (same_t sx _).mono ?_)
      rintro e d14 ⟨rfl, hb⟩
      have HSd14 := Lib.hid (show Below d13.heap.size d13 d14 from by first | exact hb | exact (Below.refl _ d13).drew.trans hb)
      clear hb
      refine hK.out _ _ ⟨HSS.out _ (below_tr (below_tr (below_tr (below_tr (below_tr (below_tr HSd2.out HSd5.out) HSd12.out) HSd7.out) HSd8.out) HSd13.out) HSd14.out), .inr trivial⟩ (fun hT => ?_)
      clear hK K
      (try simp only [Act.put, List.setIfInBounds_toArray, List.set_cons_zero, List.set_cons_succ])
      refine wpAnyG_take1d (i := 15) (v := ?_) rfl rfl (by kernel_rfl) (by kernel_rfl) (by kernel_rfl) (by kernel_rfl) (fun _ _ _ h => h) (Or.inl ⟨by rfl, ?_⟩) (by assumption) (fun hT => ?_)
      rotate_left
      · intro w hSw
        (try dsimp only at hSw)
        go_simp
        (try with_reducible rfl)
      (try simp only [Act.put, List.setIfInBounds_toArray, List.set_cons_zero, List.set_cons_succ])
      refine wpAnyG_take1d (i := 16) (v := ?_) rfl rfl (by kernel_rfl) (by kernel_rfl) (by kernel_rfl) (by kernel_rfl) (fun _ _ _ h => h) (Or.inl ⟨by rfl, ?_⟩) (by assumption) (fun hT => ?_)
      rotate_left
      · intro w hSw
        (try dsimp only at hSw)
        go_simp
        (try with_reducible rfl)
      (try simp only [Act.put, List.setIfInBounds_toArray, List.set_cons_zero, List.set_cons_succ])
      refine wpAnyG_done (by kernel_rfl) ?_ _
      clear hT
      go_wp2_with fail
      go_ret
      exact ⟨rfl, HBW.out.trans ((below_tr (below_tr (below_tr (below_tr (below_tr (below_tr HSd2.out HSd5.out) HSd12.out) HSd7.out) HSd8.out) HSd13.out) HSd14.out).mono HBW.out.size)⟩
  · go_simp
    refine gen_w ?_
    intro d12 hwa
    have HSd12 := Lib.hid (show Below d2.heap.size d2 d12 from by rw [hwa]; first | exact below_al d2 _ | exact (below_al d2 _).drew)
    have HBd12 := Lib.hid (show Reads 9 csV d12 (.slice (some ⟨d2.heap.size, 0, none⟩) 3 3) [tV (tx cs), tV (tx ds), tV (tx es)] from by rw [hwa]; exact reads_newN d2 _ [tV (tx cs), tV (tx ds), tV (tx es)] rfl)
    clear hwa
    refine hK.out _ _ ⟨HSS.out _ (below_tr HSd2.out HSd12.out), .inr trivial⟩ (fun hT => ?_)
    clear hK K
    (try simp only [Act.put, List.setIfInBounds_toArray, List.set_cons_zero, List.set_cons_succ])
    refine wpAnyG_ready (rs := [5]) (by kernel_rfl) (by simp) ?_
    refine AllG.cons (i := 5) rfl (fun K hK => ?_) AllG.nil
    go_simp
    go_at_call 13
    (with_reducible refine (bool_x false _).mono ?_)
    rintro e d5 ⟨rfl, hb⟩
    have HSd5 := Lib.hid (show Below d12.heap.size d12 d5 from by first | exact hb | exact (Below.refl _ d12).drew.trans hb)
    clear hb
    refine hK.out _ _ ⟨HSS.out _ (below_tr (below_tr HSd2.out HSd12.out) HSd5.out), .inr trivial⟩ (fun hT => ?_)
    clear hK K
    (try simp only [Act.put, List.setIfInBounds_toArray, List.set_cons_zero, List.set_cons_succ])
    refine wpAnyG_ready (rs := [7]) (by kernel_rfl) (by simp) ?_
    refine AllG.cons (i := 7) rfl (fun K hK => ?_) AllG.nil
    go_simp
    refine gen_w ?_
    intro d7 hwa
    have HSd7 := Lib.hid (show Below d5.heap.size d5 d7 from by rw [hwa]; first | exact below_al d5 _ | exact (below_al d5 _).drew)
    have HBd7 := Lib.hid (show Reads 9 csV d7 (.slice (some ⟨d5.heap.size, 0, none⟩) 3 3) [tV (tx es), bV false, (arrU 1 m (some ⟨b, o, none⟩) m cc)] from by rw [hwa]; exact reads_newN d5 _ [tV (tx es), bV false, (arrU 1 m (some ⟨b, o, none⟩) m cc)] rfl)
    clear hwa
    refine hK.out _ _ ⟨HSS.out _ (below_tr (below_tr (below_tr HSd2.out HSd12.out) HSd5.out) HSd7.out), .inr trivial⟩ (fun hT => ?_)
    clear hK K
    (try simp only [Act.put, List.setIfInBounds_toArray, List.set_cons_zero, List.set_cons_succ])
    refine wpAnyG_ready (rs := [8]) (by kernel_rfl) (by simp) ?_
    refine AllG.cons (i := 8) rfl (fun K hK => ?_) AllG.nil
    go_simp
    go_at_call 8
    (with_reducible refine (HJ2.out _ _ _ (HCT.out _ (below_tr (below_tr (below_tr HSd2.out HSd12.out) HSd5.out) HSd7.out)) (HAR.out.below (below_tr (below_tr (below_tr HSd2.out HSd12.out) HSd5.out) HSd7.out)) (HBd7.out.below (Below.refl _ d7))).mono ?_)
    rintro e d8 ⟨rfl, hb⟩
    have HSd8 := Lib.hid (show Below d7.heap.size d7 d8 from by first | exact hb | exact (Below.refl _ d7).drew.trans hb)
    clear hb
    refine hK.out _ _ ⟨HSS.out _ (below_tr (below_tr (below_tr (below_tr HSd2.out HSd12.out) HSd5.out) HSd7.out) HSd8.out), .inr trivial⟩ (fun hT => ?_)
    clear hK K
    (try simp only [Act.put, List.setIfInBounds_toArray, List.set_cons_zero, List.set_cons_succ])
    refine wpAnyG_ready (rs := [13]) (by kernel_rfl) (by simp) ?_
    refine AllG.cons (i := 13) rfl (fun K hK => ?_) AllG.nil
    go_simp
    go_at_call 8
    (with_reducible refine (HSU.out _ _ _ (HCT.out _ (below_tr (below_tr (below_tr (below_tr HSd2.out HSd12.out) HSd5.out) HSd7.out) HSd8.out)) (HBd12.out.below (below_tr (below_tr HSd5.out HSd7.out) HSd8.out))).mono ?_)
    rintro e d13 ⟨rfl, hb⟩
    have HSd13 := Lib.hid (show Below d8.heap.size d8 d13 from by first | exact hb | exact (Below.refl _ d8).drew.trans hb)
    clear hb
    refine hK.out _ _ ⟨HSS.out _ (below_tr (below_tr (below_tr (below_tr (below_tr HSd2.out HSd12.out) HSd5.out) HSd7.out) HSd8.out) HSd13.out), .inr trivial⟩ (fun hT => ?_)
    clear hK K
    (try simp only [Act.put, List.setIfInBounds_toArray, List.set_cons_zero, List.set_cons_succ])
    refine wpAnyG_ready (rs := [14]) (by kernel_rfl) (by simp) ?_
    refine AllG.cons (i := 14) rfl (fun K hK => ?_) AllG.nil
    go_simp
    go_at_call 12
    (with_reducible refine (same_t sx _).mono ?_)
    rintro e d14 ⟨rfl, hb⟩
    have HSd14 := Lib.hid (show Below d13.heap.size d13 d14 from by first | exact hb | exact (Below.refl _ d13).drew.trans hb)
    clear hb
    refine hK.out _ _ ⟨HSS.out _ (below_tr (below_tr (below_tr (below_tr (below_tr (below_tr HSd2.out HSd12.out) HSd5.out) HSd7.out) HSd8.out) HSd13.out) HSd14.out), .inr trivial⟩ (fun hT => ?_)
    clear hK K
    (try simp only [Act.put, List.setIfInBounds_toArray, List.set_cons_zero, List.set_cons_succ])
    refine wpAnyG_take1d (i := 15) (v := ?_) rfl rfl (by kernel_rfl) (by kernel_rfl) (by kernel_rfl) (by kernel_rfl) (fun _ _ _ h => h) (Or.inl ⟨by rfl, ?_⟩) (by assumption) (fun hT => ?_)
    rotate_left
    · intro w hSw
      (try dsimp only at hSw)
      go_simp
      (try with_reducible rfl)
    (try simp only [Act.put, List.setIfInBounds_toArray, List.set_cons_zero, List.set_cons_succ])
    refine wpAnyG_take1d (i := 16) (v := ?_) rfl rfl (by kernel_rfl) (by kernel_rfl) (by kernel_rfl) (by kernel_rfl) (fun _ _ _ h => h) (Or.inl ⟨by rfl, ?_⟩) (by assumption) (fun hT => ?_)
    rotate_left
    · intro w hSw
      (try dsimp only at hSw)
      go_simp
      (try with_reducible rfl)
    (try simp only [Act.put, List.setIfInBounds_toArray, List.set_cons_zero, List.set_cons_succ])
    refine wpAnyG_done (by kernel_rfl) ?_ _
    clear hT
    go_wp2_with fail
    go_ret
    exact ⟨rfl, HBW.out.trans ((below_tr (below_tr (below_tr (below_tr (below_tr (below_tr HSd2.out HSd12.out) HSd5.out) HSd7.out) HSd8.out) HSd13.out) HSd14.out).mono HBW.out.size)⟩
end Go.Proofs.YtcnlonaighlmbaaGreatDoor
