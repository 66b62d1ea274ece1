/- squash: tokens' walk. -/
import Derived.Test.YtcojoigbcfaajaaDoorSqQ
import Derived.Deep.Cut
import Derived.Deep.CutRange
import Derived.Deep.DeepCutAuto
namespace Go.Proofs.YtcojoigbcfaajaaDoor
open Go.RowKit
set_option maxRecDepth 100000 in
set_option maxHeartbeats 4000000 in
theorem tokens_any (s : ByteArray) (w : World) (he : SEnv w) (h0 : 0 < s.size) (hs : s.size ≤ 1073741824) :
    Calls Tryd.prog 9 #[.string s] w fun e w' => ∃ v, e = .returned v ∧ RowOf 43 4 Sq.tokV w' w.heap.size v (Sq.tokF s) ∧ Below w.heap.size w w' := by
  have HE := Lib.hid he
  clear he
  go_enter Tryd.func9, Tryd.ntmps9
  go_upto_region 1 with fail
  obtain ⟨W0, hW0⟩ : ∃ W0, W0 = w.alloc (.cells #[.string s] 9) := ⟨_, rfl⟩
  have hs0 : W0.heap.size = w.heap.size + 1 := by rw [hW0]; exact Array.size_push _
  have hb0 : Below w.heap.size w W0 := by rw [hW0]; exact (Below.refl _ _).alloc (Nat.le_refl _) _
  have hc0 : W0.cell? ⟨w.heap.size, 0, none⟩ = some (.string s) := by rw [hW0]; exact cell_one_new _ _ _ 0 _ rfl
  rw [← hW0]
  have HS0 := Lib.hid hs0
  clear hW0 hs0
  go_wp2_with (first | (at_make; refine wp_makeI rfl _ _ rfl (w.heap.size + 1) _ _ 32768 rfl rfl rfl rfl (by decide) (Nat.le_of_eq HS0.out.symm) ?_; intro w1 ho1 hg1 hs1; have HO1 := Lib.hid (RF.zero ho1); have HB1 := Lib.hid hg1; have hc1 := (hg1.cell (by have := HS0.out; show w.heap.size < W0.heap.size; omega)).trans hc0; clear ho1 hg1) | (at_make; refine wp_makeI rfl _ _ rfl (W0.heap.size + 1) _ _ s.size rfl rfl rfl rfl ?_ ?_ ?_; (first | omega | skip); (exact hs1); intro w2 ho2 hg2 hs2; have HO2 := Lib.hid (RF.zero ho2); have HB2 := Lib.hid hg2; have hc2 := (hg2.cell (by have := HS0.out; show w.heap.size < w1.heap.size; omega)).trans hc1; clear ho2 hg2))
  obtain ⟨gh, hgh⟩ : ∃ gh, gh = W0.heap.size := ⟨_, rfl⟩
  obtain ⟨gc, hgc⟩ : ∃ gc, gc = w1.heap.size := ⟨_, rfl⟩
  have HZ1 := Lib.hid (RZ.of (HO1.out.later HB2.out))
  have HZ2 := Lib.hid (RZ.of HO2.out)
  rw [← hgh] at HZ1 HZ2
  rw [← hgc] at HZ2
  rw [← hgh, ← hgc]
  have HJ0 := Lib.hid (show TJ w w2 gh gc s (fun _ => ((0 : Nat) : Int)) (fun _ => ((0 : Nat) : Int)) (.slice none 0 0) [] from ⟨hc2, HZ1.out, HZ2.out, RowOf.nil _ _, hb0.trans ((HB1.out.mono (by have := HS0.out; omega)).trans (HB2.out.mono (by have := HS0.out; omega)))⟩)
  clear HO1 HB1 HO2 HB2 hc0 hc1 hc2 hb0 HS0 hs1 hs2 HZ1 HZ2 hgh hgc
  go_loopw [23] (fun u23 wr => ∃ j : Nat, j ≤ 32768 ∧ u23 = .int .i64 j ∧ Hid (TJ w wr gh gc s (fun x => if x < j then -1 else 0) (fun _ => 0) (.slice none 0 0) [])) (fun u _ => 32768 - (intOf u).toNat)
  case atStart => exact ⟨0, by omega, rfl, Lib.hid (by have := HJ0.out; simpa using this)⟩
  case round =>
    clear HJ0
    obtain ⟨j, hj, rfl, HJ⟩ := hrel
    by_cases hlt : j < 32768
    · have hlz : (j : Int) < 32768 := by omega
      have c1 := HJ.out.2.1.cell hlt
      have f1 := HJ.out.2.1.frozen j
      go_wp2_with fail
      go_roundw
      case rel =>
        refine ⟨j + 1, by omega, by go_num, Lib.hid ?_⟩
        have h9 := HJ.out.hset j (-1)
        have e9 : (fun x => if x < j + 1 then (-1 : Int) else 0) = fun x => if x = j then -1 else if x < j then -1 else 0 := by
          funext x
          by_cases h1 : x = j
          · rw [if_pos h1, if_pos (by omega)]
          · rw [if_neg h1]
            by_cases h2 : x < j
            · rw [if_pos h2, if_pos (by omega)]
            · rw [if_neg h2, if_neg (by omega)]
        rw [e9]
        exact h9
      case measure => simp [intOf]; omega
    · obtain rfl : j = 32768 := by omega
      have HJ1 := Lib.hid (show TJ w wr gh gc s (fun x => if x < 32768 then -1 else 0) (fun _ => 0) (.slice none 0 0) [] from HJ.out)
      clear HJ
      go_upto_region 11 with fail
      go_loopw [7, 8] (fun u7 u8 wr => ∃ (f i : Nat) (hd ch : Nat → Int) (o : List Sq.Tok), i ≤ s.size ∧ u8 = .int .i64 i ∧ o.length ≤ i ∧ Hid (s.size ≤ i + f) ∧ Hid (Sq.TI i hd ch) ∧ Hid (TJ w wr gh gc s hd ch u7 o) ∧ Hid (Sq.tokG s f i hd ch o = Sq.tokF s)) (fun _ u _ => s.size - (intOf u).toNat)
      case atStart =>
        refine ⟨s.size, 0, fun _ => -1, fun _ => 0, [], by omega, rfl, by simp, Lib.hid (by omega), Lib.hid (fun x => by show (-1 : Int) ≤ -1 ∧ (-1 : Int) < ((0 : Nat) : Int) ∧ (-1 : Int) ≤ 0 ∧ (0 : Int) ≤ (x : Int); omega), Lib.hid ?_, Lib.hid rfl⟩
        exact ⟨HJ1.out.1, HJ1.out.2.1.congr fun x hx => if_pos hx, HJ1.out.2.2⟩
      case round =>
        clear HJ1
        clear hj hlt
        obtain ⟨f, i, hd, ch, o, hi, rfl, ho, HF, HT, HJ, HK⟩ := hrel
        by_cases hlt : i < s.size
        · have hlz : (i : Int) < s.size := by omega
          have c0 := HJ.out.box
          have hbest := Sq.best_bd s hd ch i hi HT.out
          obtain ⟨bn, bf, hbe⟩ : ∃ bn bf, Sq.best s hd ch i = (bn, bf) := ⟨_, _, rfl⟩
          rw [hbe] at hbest
          obtain ⟨hb1, hb2, hb3⟩ := hbest
          simp only [] at hb1 hb2 hb3
          have HBE := Lib.hid hbe
          have HB3 := Lib.hid hb3
          have wi3 : IntKind.i64.wrap ((i : Int) + 3) = (i : Int) + 3 := IntWalk.i64_in _ (by omega)
          clear hbe hb3
          go_upto_if 39 with fail
          go_cut [9, 10] (fun u9 u10 W => u9 = .int .i64 (bn : Int) ∧ u10 = .int .i64 (bf : Int) ∧ TJ w W gh gc s hd ch u7 o)
          case first =>
            by_cases h3 : i + 3 ≤ s.size
            · have h3z : (i : Int) + 3 ≤ s.size := by omega
              have hh := HBE.out
              unfold Sq.best at hh
              rw [if_pos h3] at hh
              have hhl := Sq.hsh_lt s i
              obtain ⟨h, hhe⟩ : ∃ h, h = Sq.hsh s i := ⟨_, rfl⟩
              have HCH := Lib.hid (HJ.out.hash i h3 (by omega))
              rw [← hhe] at hh hhl HCH
              have hkT := (HT.out h)
              have HHH := Lib.hid hh
              obtain ⟨k0, hk0⟩ : ∃ k0, k0 = hd h := ⟨_, rfl⟩
              rw [← hk0] at hkT HHH
              obtain ⟨q1, q2, -, -⟩ := hkT
              have HK0 := Lib.hid hk0
              clear hh hhe hk0
              go_wp2_with (go_at_call 21; (with_reducible refine HCH.out.mono ?_); rintro e w5 ⟨rfl, hj⟩; have HJ5 := Lib.hid hj; have c5 := hj.2.1.cell hhl; have b5 := hj.box; rw [← HK0.out] at c5; clear hj)
              go_loopw [9, 10, 11, 12] (fun u9 u10 u11 u12 wr => ∃ (t : Nat) (k : Int) (n fr : Nat), t ≤ 32 ∧ u9 = .int .i64 n ∧ u10 = .int .i64 fr ∧ u11 = .int .i64 t ∧ u12 = .int .i64 k ∧ -1 ≤ k ∧ k < i ∧ n ≤ 520 ∧ Hid (Sq.bstG s ch i t k n fr = (bn, bf)) ∧ Hid (TJ w wr gh gc s hd ch u7 o)) (fun _ _ u _ _ => (intOf u).toNat)
              case atStart => exact ⟨32, k0, 0, 0, by omega, rfl, rfl, rfl, rfl, q1, q2, by omega, HHH, HJ5⟩
              case round =>
                clear HJ5 c5 b5 q1 q2 HHH HK0
                obtain ⟨t, k, n, fr, ht, rfl, rfl, rfl, rfl, q1, q2, hn, HP, HJ⟩ := hrel
                have hp := HP.out
                by_cases hk : 0 ≤ k
                · obtain ⟨kn, rfl⟩ : ∃ kn : Nat, k = (kn : Int) := ⟨k.toNat, by omega⟩
                  by_cases hd8 : (i : Int) - (kn : Int) ≤ 32768
                  · have w8 : IntKind.i64.wrap ((i : Int) - (kn : Int)) = (i : Int) - (kn : Int) := IntWalk.i64_in _ (by omega)
                    cases t with
                    | zero =>
                      have HP2 := Lib.hid (show (n, fr) = (bn, bf) from hp)
                      clear hp
                      go_wp2_with fail
                      go_meet
                      have := HP2.out
                      injection this with e1 e2
                      exact ⟨by rw [e1], by rw [e2], HJ.out⟩
                    | succ t =>
                      have w9 : IntKind.i64.wrap (((t : Nat) : Int) + 1 - 1) = (t : Int) := by rw [show ((t : Nat) : Int) + 1 - 1 = (t : Int) by omega]; exact IntWalk.i64_in _ (by omega)
                      have HP := Lib.hid hp
                      clear hp
                      have hki : kn < i := by omega
                      go_wp2_with fail
                      go_loopw [13] (fun u13 wr => ∃ m : Nat, m ≤ 520 ∧ i + m ≤ s.size ∧ u13 = .int .i64 m ∧ Hid (Sq.mlG s kn i (520 - m) m = Sq.ml s kn i) ∧ Hid (TJ w wr gh gc s hd ch u7 o)) (fun u _ => 520 - (intOf u).toNat)
                      case atStart => exact ⟨0, by omega, by omega, rfl, Lib.hid rfl, HJ⟩
                      case round =>
                        clear HJ
                        obtain ⟨m, hm, him, rfl, HM, HJ⟩ := hrel
                        have c0 := HJ.out.box
                        have hml := HM.out
                        obtain ⟨km, hkm⟩ : ∃ km, km = kn + m := ⟨_, rfl⟩
                        obtain ⟨im, him2⟩ : ∃ im, im = i + m := ⟨_, rfl⟩
                        have ekm : (kn : Int) + (m : Int) = (km : Int) := by omega
                        have eim : (i : Int) + (m : Int) = (im : Int) := by omega
                        have bim : im ≤ s.size := by omega
                        have bkm : km < im := by omega
                        by_cases hm5 : m < 520
                        · have hm5z : (m : Int) < 520 := by omega
                          by_cases hie : im < s.size
                          · have hiz : (im : Int) < s.size := by omega
                            have hkz : (km : Int) < s.size := by omega
                            have hke : km < s.size := by omega
                            have b1 : Sq.bt s km = s[km].toNat := by unfold Sq.bt; rw [getD_at s km hke]
                            have b2 : Sq.bt s im = s[im].toNat := by unfold Sq.bt; rw [getD_at s im hie]
                            rw [show 520 - m = (520 - (m + 1)) + 1 by omega, Sq.mlG, ← hkm, ← him2, b1, b2] at hml
                            by_cases hbe : s[km].toNat = s[im].toNat
                            · rw [if_pos ⟨hie, hbe⟩] at hml
                              have hez : ((s[km].toNat : Int) == (s[im].toNat : Int)) = true := by rw [beq_iff_eq]; omega
                              have HML := Lib.hid hml
                              have HSZ := Lib.hid (show i + (m + 1) ≤ s.size by omega)
                              clear hml hbe b1 b2 hkm him2
                              go_wp2_with fail
                              go_quiet (fail)
                              go_wp2_with fail
                              go_roundw
                              case rel => exact ⟨m + 1, by omega, HSZ.out, by go_num, HML, Lib.hid (by first | exact HJ.out | exact HJ.out.drewN _)⟩
                              case measure => simp [intOf]; omega
                            · rw [if_neg (fun h => hbe h.2)] at hml
                              have hez : ((s[km].toNat : Int) == (s[im].toNat : Int)) = false := by rw [beq_eq_false_iff_ne]; omega
                              have HML := Lib.hid hml
                              clear hml
                              have hml := HML.out
                              clear b1 b2 hbe
                              have hp := HP.out
                              rw [Sq.bstG, if_pos ⟨by omega, hd8⟩, Int.toNat_natCast, ← HML.out] at hp
                              have hks : kn < s.size := by omega
                              have c6 := HJ.out.2.2.1.cell hks
                              have hT6 := HT.out kn
                              obtain ⟨k1, hk1⟩ : ∃ k1, k1 = ch kn := ⟨_, rfl⟩
                              rw [← hk1] at c6 hT6 hp
                              obtain ⟨-, -, r1, r2⟩ := hT6
                              have hksz : (kn : Int) < s.size := by omega
                              have HJ' := HJ
                              clear hk1 HP hml hkm him2
                              by_cases hnm : n < m
                              · rw [if_pos hnm] at hp
                                have HP := Lib.hid hp
                                clear hp
                                go_wp2_with fail
                                go_quiet (fail)
                                go_wp2_with fail
                                go_roundw
                                case rel => exact ⟨t, k1, m, kn, by omega, rfl, rfl, by first | rfl | go_num, rfl, r1, by omega, by omega, HP, Lib.hid (by first | exact HJ.out | exact HJ.out.drewN _)⟩
                                case measure => simp [intOf] <;> omega
                              · rw [if_neg hnm] at hp
                                have HP := Lib.hid hp
                                clear hp
                                go_wp2_with fail
                                go_quiet (fail)
                                go_wp2_with fail
                                go_roundw
                                case rel => exact ⟨t, k1, n, fr, by omega, rfl, rfl, by first | rfl | go_num, rfl, r1, by omega, hn, HP, Lib.hid (by first | exact HJ.out | exact HJ.out.drewN _)⟩
                                case measure => simp [intOf] <;> omega
                          · obtain rfl : im = s.size := by omega
                            have hml : m = Sq.ml s kn i := by
                              rw [← hml, show 520 - m = (520 - (m + 1)) + 1 by omega, Sq.mlG, if_neg (fun h => by have := h.1; omega)]
                            have HML := Lib.hid hml
                            have hp := HP.out
                            rw [Sq.bstG, if_pos ⟨by omega, hd8⟩, Int.toNat_natCast, ← HML.out] at hp
                            have hks : kn < s.size := by omega
                            have c6 := HJ.out.2.2.1.cell hks
                            have hT6 := HT.out kn
                            obtain ⟨k1, hk1⟩ : ∃ k1, k1 = ch kn := ⟨_, rfl⟩
                            rw [← hk1] at c6 hT6 hp
                            obtain ⟨-, -, r1, r2⟩ := hT6
                            have hksz : (kn : Int) < s.size := by omega
                            have HJ' := HJ
                            clear hk1 HP hml hkm him2
                            by_cases hnm : n < m
                            · rw [if_pos hnm] at hp
                              have HP := Lib.hid hp
                              clear hp
                              go_wp2_with fail
                              go_quiet (fail)
                              go_wp2_with fail
                              go_roundw
                              case rel => exact ⟨t, k1, m, kn, by omega, rfl, rfl, by first | rfl | go_num, rfl, r1, by omega, by omega, HP, Lib.hid (by first | exact HJ.out | exact HJ.out.drewN _)⟩
                              case measure => simp [intOf] <;> omega
                            · rw [if_neg hnm] at hp
                              have HP := Lib.hid hp
                              clear hp
                              go_wp2_with fail
                              go_quiet (fail)
                              go_wp2_with fail
                              go_roundw
                              case rel => exact ⟨t, k1, n, fr, by omega, rfl, rfl, by first | rfl | go_num, rfl, r1, by omega, hn, HP, Lib.hid (by first | exact HJ.out | exact HJ.out.drewN _)⟩
                              case measure => simp [intOf] <;> omega
                        · obtain rfl : m = 520 := by omega
                          have hml : 520 = Sq.ml s kn i := hml
                          have HML := Lib.hid hml
                          have hp := HP.out
                          rw [Sq.bstG, if_pos ⟨by omega, hd8⟩, Int.toNat_natCast, ← HML.out] at hp
                          have hks : kn < s.size := by omega
                          have c6 := HJ.out.2.2.1.cell hks
                          have hT6 := HT.out kn
                          obtain ⟨k1, hk1⟩ : ∃ k1, k1 = ch kn := ⟨_, rfl⟩
                          rw [← hk1] at c6 hT6 hp
                          obtain ⟨-, -, r1, r2⟩ := hT6
                          have hksz : (kn : Int) < s.size := by omega
                          have HJ' := HJ
                          clear hk1 HP hml hkm him2
                          by_cases hnm : n < 520
                          · rw [if_pos hnm] at hp
                            have HP := Lib.hid hp
                            clear hp
                            go_wp2_with fail
                            go_quiet (fail)
                            go_wp2_with fail
                            go_roundw
                            case rel => exact ⟨t, k1, 520, kn, by omega, rfl, rfl, by first | rfl | go_num, rfl, r1, by omega, by omega, HP, Lib.hid (by first | exact HJ.out | exact HJ.out.drewN _)⟩
                            case measure => simp [intOf] <;> omega
                          · rw [if_neg hnm] at hp
                            have HP := Lib.hid hp
                            clear hp
                            go_wp2_with fail
                            go_quiet (fail)
                            go_wp2_with fail
                            go_roundw
                            case rel => exact ⟨t, k1, n, fr, by omega, rfl, rfl, by first | rfl | go_num, rfl, r1, by omega, hn, HP, Lib.hid (by first | exact HJ.out | exact HJ.out.drewN _)⟩
                            case measure => simp [intOf] <;> omega
                  · have w8 : IntKind.i64.wrap ((i : Int) - (kn : Int)) = (i : Int) - (kn : Int) := IntWalk.i64_in _ (by omega)
                    have HP2 := Lib.hid (show (n, fr) = (bn, bf) by
                      rw [← hp]
                      cases t with
                      | zero => rfl
                      | succ t => rw [Sq.bstG, if_neg (fun h => hd8 h.2)])
                    clear hp
                    go_wp2_with fail
                    go_meet
                    have := HP2.out
                    injection this with e1 e2
                    exact ⟨by rw [e1], by rw [e2], HJ.out⟩
                · have HP2 := Lib.hid (show (n, fr) = (bn, bf) by
                    rw [← hp]
                    cases t with
                    | zero => rfl
                    | succ t => rw [Sq.bstG, if_neg (fun h => hk h.1)])
                  clear hp
                  go_wp2_with fail
                  go_meet
                  have := HP2.out
                  injection this with e1 e2
                  exact ⟨by rw [e1], by rw [e2], HJ.out⟩
            · have h3z : ¬ (i : Int) + 3 ≤ s.size := by omega
              have hh := HBE.out
              unfold Sq.best at hh
              rw [if_neg h3] at hh
              injection hh with e1 e2
              subst e1 e2
              go_wp2_with fail
              go_meet
              exact ⟨rfl, rfl, HJ.out⟩
          case rest =>
            clear HJ c0
            obtain ⟨rfl, rfl, hJ⟩ := hcut
            obtain ⟨a, hae⟩ : ∃ a, a = Sq.adv s hd ch i := ⟨_, rfl⟩
            obtain ⟨tk, hte⟩ : ∃ tk, tk = Sq.tkn s hd ch i := ⟨_, rfl⟩
            have had := Sq.adv_bd s hd ch i hlt HT.out
            rw [← hae] at had
            obtain ⟨a1, a2, a3⟩ := had
            have ha := hae
            unfold Sq.adv at ha
            rw [HBE.out] at ha
            simp only [] at ha
            have htk := hte
            unfold Sq.tkn at htk
            rw [HBE.out] at htk
            simp only [] at htk
            have HTE := Lib.hid hte
            have HAE := Lib.hid hae
            have HJ := Lib.hid hJ
            have hol : o.length ≤ i := ho
            have HOL := Lib.hid hol
            clear hte hae hJ hol ho
            go_upto_if 95 with fail
            go_cut [7, 9] (fun u7 u9 W => u9 = .int .i64 (a : Int) ∧ TJ w W gh gc s hd ch u7 (o ++ [tk]))
            case first =>
              by_cases hn3 : bn < 3
              · rw [if_pos hn3] at ha htk
                have hn3z : (bn : Int) < 3 := by omega
                have c0 := HJ.out.box
                have hb : Sq.bt s i = s[i].toNat := by unfold Sq.bt; rw [getD_at s i hlt]
                rw [hb] at htk
                have HTK := Lib.hid htk
                have HW := Lib.hid (Sq.w64 (s[i].toNat : Int) (by have := s[i].toNat_lt; omega))
                subst ha
                clear htk hb
                go_wp2_with (at_builtin; refine wp_row1 32 43 4 32 Sq.tokV _ Tryd.underlying32 tk_info rfl (by decide) tk_len rfl _ _ rfl (gc + 1) _ o rfl HJ.out.2.2.2.1 tk _ ?_ rfl ?_ ?_ HJ.out.gcs ?_; (rw [HTK.out, HW.out]; rfl); (have := HOL.out; omega); (have := HOL.out; unfold maxLen; omega); intro v3 w3 ho3 hb3 _; have HJ3 := Lib.hid (HJ.out.grow hb3 ho3); clear ho3 hb3)
                go_meet
                exact ⟨rfl, HJ3.out⟩
              · rw [if_neg hn3] at ha htk
                have hn3z : ¬ (bn : Int) < 3 := by omega
                obtain ⟨b1, b2⟩ := HB3.out (by omega)
                obtain ⟨d1, hd1⟩ : ∃ d1, d1 = i - bf := ⟨_, rfl⟩
                obtain ⟨d, hdd⟩ : ∃ d, d = i - bf - 1 := ⟨_, rfl⟩
                have ed1 : (i : Int) - (bf : Int) = (d1 : Int) := by omega
                have ed : (d1 : Int) - 1 = (d : Int) := by omega
                rw [← hdd] at htk
                have HM := Lib.hid (match_any bn wc (HE.out.below HJ.out.2.2.2.2) (by omega) hb1)
                obtain ⟨m1, m2, m3, hmm⟩ : ∃ m1 m2 m3, mat bn = (m1, m2, m3) := ⟨_, _, _, rfl⟩
                rw [hmm] at HM htk
                simp only [] at HM htk
                have HTK := Lib.hid htk
                have bd1 : d1 ≤ 1073741824 := by omega
                subst ha
                clear htk hmm hdd hd1 b1 b2
                go_wp2_with (first | (go_at_call 22; (with_reducible refine HM.out.mono ?_); rintro e w4 ⟨rfl, hb⟩; have HJ4 := Lib.hid (HJ.out.later hb); clear hb) | (at_builtin; refine wp_row1 32 43 4 32 Sq.tokV _ Tryd.underlying32 tk_info rfl (by decide) tk_len rfl _ _ rfl (gc + 1) _ o rfl HJ4.out.2.2.2.1 tk _ ?_ rfl ?_ ?_ HJ4.out.gcs ?_; (rw [HTK.out]; rfl); (have := HOL.out; omega); (have := HOL.out; unfold maxLen; omega); intro v3 w3 ho3 hb3 _; have HJ3 := Lib.hid (HJ4.out.grow hb3 ho3); clear ho3 hb3))
                go_meet
                exact ⟨rfl, HJ3.out⟩
            case rest =>
              clear HJ ha htk
              obtain ⟨rfl, hJ⟩ := hcut
              have HJ := Lib.hid hJ
              clear hJ
              go_wp2_with fail
              go_loopw [8, 122] (fun u8 u122 wr => ∃ j : Nat, j ≤ a ∧ u122 = .int .i64 j ∧ u8 = .int .i64 ((i + j : Nat) : Int) ∧ Hid (TJ w wr gh gc s (Sq.insH s j i hd) (Sq.insC s j i hd ch) u7 (o ++ [tk]))) (fun _ u _ => a - (intOf u).toNat)
              case atStart => exact ⟨0, by omega, rfl, rfl, HJ⟩
              case round =>
                clear HJ
                obtain ⟨j, hj, rfl, rfl, HJ⟩ := hrel
                have c0 := HJ.out.box
                by_cases hja : j < a
                · have hjz : (j : Int) < (a : Int) := by omega
                  obtain ⟨ij, hij⟩ : ∃ ij, ij = i + j := ⟨_, rfl⟩
                  rw [← hij]
                  have hijs : ij < s.size := by omega
                  obtain ⟨H, hH⟩ : ∃ H, H = Sq.insH s j i hd := ⟨_, rfl⟩
                  obtain ⟨C, hC⟩ : ∃ C, C = Sq.insC s j i hd ch := ⟨_, rfl⟩
                  have hS1 := Sq.insH_succ s j i hd
                  have hS2 := Sq.insC_succ s j i hd ch
                  rw [← hij, ← hH] at hS1
                  rw [← hij, ← hH, ← hC] at hS2
                  rw [← hH, ← hC] at HJ
                  have HS1 := Lib.hid hS1
                  have HS2 := Lib.hid hS2
                  have HIJ := Lib.hid hij
                  clear hH hC hS1 hS2 hij
                  have w3 : IntKind.i64.wrap ((ij : Int) + 3) = (ij : Int) + 3 := IntWalk.i64_in _ (by omega)
                  by_cases h3 : ij + 3 ≤ s.size
                  · have h3z : (ij : Int) + 3 ≤ s.size := by omega
                    have hhl := Sq.hsh_lt s ij
                    have HCH := Lib.hid fun W (k : TJ w W gh gc s H C u7 (o ++ [tk])) => k.hash ij h3 (by omega)
                    obtain ⟨h, hhe⟩ : ∃ h, h = Sq.hsh s ij := ⟨_, rfl⟩
                    rw [← hhe] at hhl HCH
                    have HHE := Lib.hid hhe
                    clear hhe
                    go_wp2_with (first | (go_at_call 21; (with_reducible refine (HCH.out _ HJ.out).mono ?_); rintro e w5 ⟨rfl, hj5⟩; have HJ5 := Lib.hid hj5; clear hj5) | (go_at_call 21; (with_reducible refine (HCH.out _ HJ5.out).mono ?_); rintro e w6 ⟨rfl, hj6⟩; have HJ6 := Lib.hid hj6; have c6 := hj6.2.1.cell hhl; have f6 := hj6.2.1.frozen h; have d6 := hj6.2.2.1.cell hijs; have e6 := hj6.2.2.1.frozen ij; have g6 := (hj6.cset ij (H h)).2.1.cell hhl; have k6 := (hj6.cset ij (H h)).2.1.frozen h; clear hj6))
                    go_roundw
                    case rel =>
                      (repeat apply Exists.intro)
                      refine ⟨⟨j + 1, by omega, by go_num, by first | (congr 1; have := HIJ.out; omega) | (have := HIJ.out; go_num), Lib.hid ?_⟩, rfl⟩
                      rw [HS1.out, HS2.out]
                      unfold Sq.hd1 Sq.ch1
                      rw [if_pos h3, if_pos h3, ← HHE.out]
                      exact (HJ6.out.cset ij (H h)).hset h (ij : Int)
                    case measure => simp [intOf]; omega
                  · have h3z : ¬ (ij : Int) + 3 ≤ s.size := by omega
                    go_wp2_with fail
                    go_roundw
                    case rel =>
                      refine ⟨j + 1, by omega, by go_num, by first | (congr 1; have := HIJ.out; omega) | (have := HIJ.out; go_num), Lib.hid ?_⟩
                      rw [HS1.out, HS2.out]
                      unfold Sq.hd1 Sq.ch1
                      rw [if_neg h3, if_neg h3]
                      exact HJ.out
                    case measure => simp [intOf]; omega
                · obtain rfl : j = a := by omega
                  go_wp2_with fail
                  go_roundw
                  case rel =>
                    obtain ⟨f', hf'⟩ : ∃ f', f = f' + 1 := ⟨f - 1, by have := HF.out; omega⟩
                    subst hf'
                    have hk := HK.out
                    rw [Sq.tokG, if_pos hlt, ← HAE.out, ← HTE.out] at hk
                    have ht := Sq.TI.many (s := s) (n := j) HT.out
                    first
                      | exact ⟨f', i + j, _, _, _, a3, rfl, by have := HOL.out; rw [List.length_append]; simp; omega, Lib.hid (by have := HF.out; omega), Lib.hid ht, HJ, Lib.hid hk⟩
                      | skip
                  case measure => simp [intOf]; omega
        · obtain rfl : i = s.size := by omega
          have hk := HK.out
          rw [Sq.tokG_end s f s.size hd ch o (Nat.le_refl _)] at hk
          have HKE := Lib.hid hk
          have c0 := HJ.out.box
          clear hk
          go_wp2_with fail
          go_ret
          have h1 := HJ.out.2.1.lt.1
          have h2 := HJ.out.2.2.1.lt.1
          exact ⟨_, rfl, by rw [← HKE.out]; exact HJ.out.2.2.2.1.mono (by omega), HJ.out.2.2.2.2⟩
end Go.Proofs.YtcojoigbcfaajaaDoor
