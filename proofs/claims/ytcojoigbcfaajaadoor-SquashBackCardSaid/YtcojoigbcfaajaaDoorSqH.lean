/- squash: unpacked's walk. -/
import Derived.Test.YtcojoigbcfaajaaDoorSqG
namespace Go.Proofs.YtcojoigbcfaajaaDoor
open Go.RowKit

def slN : Value → Nat | .slice _ n _ => n | _ => 0
def rdAt (g : Nat) (W : World) : Nat := match W.cell? ⟨g, 1, none⟩ with | some (.int _ i) => i.toNat | _ => 0
theorem Rd.cells {W : World} {g : Nat} {s : ByteArray} {p : Nat} (h : Rd W g s p) : W.cell? ⟨g, 0, none⟩ = some (.string s) ∧ W.cell? ⟨g, 1, none⟩ = some (.int .i64 (p : Int)) := by
  have c0 := h.cell 0
  have c1 := h.cell 1
  simp at c0 c1
  exact ⟨c0, c1⟩
theorem Rd.rdAt {W : World} {g : Nat} {s : ByteArray} {p : Nat} (h : Rd W g s p) : rdAt g W = p := by
  unfold Go.Proofs.YtcojoigbcfaajaaDoor.rdAt
  rw [h.cells.2]
  rfl
theorem Sq.unpG_fuel (L : Nat → Nat) (s : ByteArray) (n : Nat) : ∀ k j (o : List Nat) p, n ≤ o.length + k → n ≤ o.length + j → Sq.unpG L s n k o p = Sq.unpG L s n j o p
  | 0, 0, _, _, _, _ => rfl
  | 0, j + 1, o, p, h, _ => by rw [Sq.unpG, Sq.unpG, if_neg (by omega)]
  | k + 1, 0, o, p, _, h => by rw [Sq.unpG, Sq.unpG, if_neg (by omega)]
  | k + 1, j + 1, o, p, h1, h2 => by
    rw [Sq.unpG, Sq.unpG]
    by_cases hl : o.length < n
    · rw [if_pos hl, if_pos hl]
      by_cases hy : 256 ≤ (Sq.symF L s p).2.1
      · have hy2 : (Sq.symF L s p).2.1 < 272 := Sq.symG_lt L s 15 1 0 p
        have h3 := (Sq.spn_facts _ hy hy2).2.1
        rw [if_neg (by omega : ¬ (Sq.symF L s p).2.1 < 256)]
        rw [Sq.unpG_fuel L s n k j _ _ (by rw [Sq.cpy_len]; omega) (by rw [Sq.cpy_len]; omega)]
        rw [if_neg (by omega : ¬ (Sq.symF L s p).2.1 < 256)]
      · rw [Sq.unpG_fuel L s n k j (o ++ [(Sq.symF L s p).2.1]) _ (by simp; omega) (by simp; omega), if_pos (by omega : (Sq.symF L s p).2.1 < 256)]
        rw [if_pos (by omega : (Sq.symF L s p).2.1 < 256)]
    · rw [if_neg hl, if_neg hl]
set_option maxRecDepth 100000 in
set_option maxHeartbeats 4000000 in
theorem unpacked_any (L : Nat → Nat) (gd gr : Nat) (s : ByteArray) (n p : Nat) (w : World) (hd : Dec w gd gr L) (hr : Rd w gr s p) (hlt : gr < w.heap.size) (hne : gr ≠ gd) (he : SEnv w) (hg : 0 ≠ gr) (hp : p ≤ 8 * s.size) (hn : n ≤ 4294967296) (hs : s.size ≤ 1125899906842624) :
    Calls Tryd.prog 13 #[.pointer (some ⟨gr, 0, none⟩), .pointer (some ⟨gd, 0, none⟩), .int .i64 n] w fun e w' => e = .returned (.tuple #[.string (Sq.toB (Sq.unpF L s n p).2), .int .i64 ((Sq.unpF L s n p).1 : Nat)]) ∧ Chg w.heap.size [gr] w w' := by
  have HD := Lib.hid hd
  have HE := Lib.hid he
  have HJ0 := Lib.hid (show UJ w w gr s p (.slice none 0 0) [] from ⟨hlt, Chg.refl _ _ _, hr, R1.nil _ _⟩)
  have HG := Lib.hid hg
  obtain ⟨RT, hRT⟩ : ∃ RT, RT = Sq.unpF L s n p := ⟨_, rfl⟩
  have HRT := Lib.hid hRT
  rw [← hRT]
  clear hd hr he hlt hg hRT
  go_enter Tryd.func13, Tryd.ntmps13
  go_wp2_with fail
  go_loopw [8] (fun u8 wr => ∃ (o : List Nat) (q : Nat), o.length ≤ n ∧ q ≤ 8 * s.size ∧ Hid (Sq.Byt o) ∧ Hid (UJ w wr gr s q u8 o) ∧ Hid (Sq.unpG L s n (n - o.length) o q = Sq.unpG L s n n [] p)) (fun u _ => n - slN u)
  case atStart => exact ⟨[], p, by simp, hp, Lib.hid Sq.Byt.nil, HJ0, Lib.hid rfl⟩
  case round =>
    clear HJ0
    obtain ⟨o, q, ho, hq, HB, HJ, HU⟩ := hrel
    obtain ⟨A, cc, rfl⟩ := HJ.out.2.2.2.shape
    obtain ⟨l, hl⟩ : ∃ l, l = o.length := ⟨_, rfl⟩
    rw [← hl] at ho
    have HL := Lib.hid hl
    have HJ' : Hid (UJ w wr gr s q (.slice A l cc) o) := by rw [hl]; exact HJ
    rw [← hl]
    rw [← hl] at HU
    clear HJ hl
    by_cases hln : l < n
    · have hlz : (l : Int) < (n : Int) := by omega
      have hsl : n - slN (.slice A l cc) = n - l := rfl
      have hUs := HU.out
      rw [show n - l = (n - l - 1) + 1 by omega, Sq.unpG, if_pos (by rw [← HL.out]; exact hln)] at hUs
      have hsym := sym_u HD.out hne hs HJ'.out hq
      have hb1 := Sq.symG_bd L s 15 1 0 q hq
      have hb2 := Sq.symG_lt L s 15 1 0 q
      have hb3 := Sq.symG_err L s 15 1 0 q
      change (Sq.symF L s q).2.2 ≤ _ at hb1
      change (Sq.symF L s q).2.1 < _ at hb2
      change (Sq.symF L s q).1 = _ ∨ (Sq.symF L s q).1 = _ ∨ (Sq.symF L s q).1 = _ at hb3
      obtain ⟨e1, y, q1, hsy⟩ : ∃ e1 y q1, Sq.symF L s q = (e1, y, q1) := ⟨_, _, _, rfl⟩
      rw [hsy] at hUs hsym hb1 hb2 hb3
      simp only [] at hUs hsym hb1 hb2 hb3
      have HSY := Lib.hid hsym
      clear hsym hsy
      by_cases he1 : e1 = 0
      · subst he1
        clear hb3
        rw [if_pos rfl] at hUs
        by_cases hy : y < 256
        · rw [if_pos hy] at hUs
          have hyz : (y : Int) < 256 := by omega
          have hwy : IntKind.u8.wrap (y : Int) = (y : Int) := by
            show (y : Int) % 256 = y
            omega
          have HUs := Lib.hid hUs
          have HLn := Lib.hid (show o.length + 1 ≤ 1099511627776 by have := HL.out; omega)
          clear hUs
          go_wp2_with (first | (go_at_call 26; (with_reducible refine HSY.out.mono ?_); rintro e w1 ⟨rfl, hj⟩; have HJ1 := Lib.hid hj; clear hj) | (at_builtin; refine wp_appB rfl _ _ rfl w.heap.size _ _ rfl HJ1.out.2.2.2 _ y ?_ rfl ?_ ?_ ?_; (first | rfl | exact hwy); (exact HLn.out); (exact HJ1.out.2.1.size); intro v2 w2 hr2 hb2 hg2; have HJ2 := Lib.hid (HJ1.out.grow hb2 hr2); obtain ⟨A2, m2, c2, rfl⟩ := hr2.shp; clear hr2 hb2 hg2))
          go_roundw
          case rel =>
            refine ⟨o ++ [y], q1, by rw [List.length_append, ← HL.out]; exact hln, hb1, Lib.hid (HB.out.one hy), HJ2, Lib.hid ?_⟩
            rw [← HUs.out, List.length_append, ← HL.out]
            rfl
          case measure =>
            have h9 : m2 = o.length + 1 := by
              obtain ⟨A9, c9, e9⟩ := HJ2.out.2.2.2.shape
              injection e9 with _ e9
              rw [e9, List.length_append]; rfl
            have := HL.out
            show n - m2 < n - l
            omega
        · have hyz : ¬ (y : Int) < 256 := by omega
          rw [if_neg hy] at hUs
          have hy1 : 256 ≤ y := by omega
          obtain ⟨-, hf2, hf3, hf4⟩ := Sq.spn_facts y hy1 hb2
          have hspan := fun W (h : UJ w W gr s q1 (.slice A l cc) o) => span_u HE.out HG.out h y hy1 hb2
          obtain ⟨bb, hbb⟩ : ∃ bb, bb = Sq.spB y := ⟨_, rfl⟩
          obtain ⟨x, hx⟩ : ∃ x, x = (spn y).2 := ⟨_, rfl⟩
          rw [← hbb, ← hx] at hUs
          rw [← hbb] at hf2 hf3
          rw [← hx] at hf4
          simp only [← hbb, ← hx] at hspan
          have HSP := Lib.hid hspan
          clear hspan hbb hx
          by_cases h1 : q1 + x ≤ 8 * s.size
          · have HN1 := Lib.hid fun W (h : UJ w W gr s q1 (.slice A l cc) o) => num_u hs h x (by omega) h1
            have ha := numN_lt s q1 x
            have ha2 : 2 ^ x ≤ 256 := Nat.pow_le_pow_right (n := 2) (by decide) hf4
            obtain ⟨a, haa⟩ : ∃ a, a = numN s q1 x := ⟨_, rfl⟩
            have ba : a < 256 := by omega
            rw [← haa] at HN1 hUs
            have na : ¬ (a : Int) < 0 := by omega
            clear ha ha2 haa
            by_cases h2 : q1 + x + 15 ≤ 8 * s.size
            · have HN2 := Lib.hid fun W (h : UJ w W gr s (q1 + x) (.slice A l cc) o) => show Calls Tryd.prog 28 #[.pointer (some ⟨gr, 0, none⟩), .int .i64 15] W _ from num_u hs h 15 (Nat.le_refl _) h2
              rw [if_pos h2] at hUs
              have hbl := numN_lt s (q1 + x) 15
              have hbl2 : 2 ^ 15 = 32768 := by decide
              obtain ⟨b, hbb⟩ : ∃ b, b = numN s (q1 + x) 15 := ⟨_, rfl⟩
              have bb1 : b < 32768 := by omega
              rw [← hbb] at HN2 hUs
              have nb : ¬ (b : Int) < 0 := by omega
              clear hbl hbl2 hbb
              by_cases h3 : b + 1 ≤ l
              · rw [← HL.out, if_pos h3] at hUs
                obtain ⟨f1, hf1⟩ : ∃ f1, f1 = l - b := ⟨_, rfl⟩
                obtain ⟨f, hf⟩ : ∃ f, f = l - (b + 1) := ⟨_, rfl⟩
                rw [← hf] at hUs
                have ef1 : (l : Int) - (b : Int) = (f1 : Int) := by omega
                have ef : (f1 : Int) - 1 = (f : Int) := by omega
                have nf : ¬ (f : Int) < 0 := by omega
                have ff : f < l := by omega
                clear hf1 hf
                obtain ⟨m, hm⟩ : ∃ m, m = bb + a := ⟨_, rfl⟩
                rw [← hm] at hUs
                have em : (bb : Int) + (a : Int) = (m : Int) := by omega
                have bm : m ≤ 521 := by omega
                have bm3 : 3 ≤ m := by omega
                obtain ⟨r, hrr⟩ : ∃ r, r = n - l := ⟨_, rfl⟩
                have er : (n : Int) - (l : Int) = (r : Int) := by omega
                clear hm
                by_cases h4 : m ≤ r
                · rw [if_pos (by omega)] at hUs
                  have nz : ¬ r < m := by omega
                  have HUs := Lib.hid hUs
                  have HR := Lib.hid hrr
                  have bl : l + m ≤ n := by omega
                  clear hUs hrr h4
                  go_wp2_with (first | (go_at_call 26; (with_reducible refine HSY.out.mono ?_); rintro e w1 ⟨rfl, hj⟩; have HJ1 := Lib.hid hj; clear hj) | (go_at_call 27; (with_reducible refine (HSP.out _ HJ1.out).mono ?_); rintro e w2 ⟨rfl, hj⟩; have HJ2 := Lib.hid hj; clear hj) | (go_at_call 28; (with_reducible refine (HN1.out _ HJ2.out).mono ?_); rintro e w3 ⟨rfl, hj⟩; have HJ3 := Lib.hid hj; clear hj) | (go_at_call 28; (with_reducible refine (HN2.out _ HJ3.out).mono ?_); rintro e w4 ⟨rfl, hj⟩; have HJ4 := Lib.hid hj; clear hj))
                  go_loopw [8, 16, 71] (fun u8 _ u71 wi => ∃ (i : Nat), i ≤ m ∧ u71 = .int .i64 i ∧ Hid (UJ w wi gr s (q1 + x + 15) u8 (Sq.cpy o f i))) (fun _ _ u _ => m - (intOf u).toNat)
                  case atStart => exact ⟨0, by omega, rfl, HJ4⟩
                  case round =>
                    clear HJ1 HJ2 HJ3 HJ4
                    obtain ⟨i, hi, rfl, HJ⟩ := hrel
                    obtain ⟨A5, c5, rfl⟩ := HJ.out.2.2.2.shape
                    obtain ⟨P, hP⟩ : ∃ P, P = Sq.cpy o f i := ⟨_, rfl⟩
                    have hPl : P.length = l + i := by rw [hP, Sq.cpy_len, ← HL.out]
                    rw [← hP] at HJ
                    have HP := Lib.hid hP
                    rw [← hP, hPl]
                    rw [hPl] at HJ
                    clear hP
                    by_cases him : i < m
                    · have hiz : (i : Int) < (m : Int) := by omega
                      obtain ⟨g5, hgA⟩ : ∃ g5, A5 = some ⟨g5, 0, none⟩ := by
                        obtain ⟨g5, c', e, -, -⟩ := HJ.out.2.2.2.form (by omega)
                        injection e with e1
                        exact ⟨g5, e1⟩
                      subst hgA
                      have hix : f + i < P.length := by omega
                      have hcell := HJ.out.2.2.2.cell hPl hix
                      obtain ⟨y5, hy5⟩ : ∃ y5, y5 = P[f + i] := ⟨_, rfl⟩
                      rw [← hy5] at hcell
                      have HY := Lib.hid (show Sq.cpy o f (i + 1) = P ++ [y5] by
                        rw [Sq.cpy, ← HP.out, List.getD_eq_getElem?_getD, List.getElem?_eq_getElem hix, ← hy5]
                        rfl)
                      have e5 : (f : Int) + (i : Int) = ((f + i : Nat) : Int) := by omega
                      obtain ⟨fi, hfi⟩ : ∃ fi, fi = f + i := ⟨_, rfl⟩
                      rw [← hfi] at hcell e5
                      have b5 : fi < l + i := by omega
                      have HLn := Lib.hid (show P.length + 1 ≤ 1099511627776 by omega)
                      obtain ⟨li, hli⟩ : ∃ li, li = l + i := ⟨_, rfl⟩
                      rw [← hli] at HJ b5
                      rw [← hli]
                      have bli : li ≤ 4294967296 := by omega
                      clear hy5 hix hPl hfi hli
                      go_wp2_with (at_builtin; refine wp_appB rfl _ _ rfl w.heap.size _ _ rfl HJ.out.2.2.2 _ y5 ?_ rfl ?_ ?_ ?_; (first | rfl | skip); (exact HLn.out); (exact HJ.out.2.1.size); intro v2 w2 hr2 hb2 hg2; have HJ2 := Lib.hid (HJ.out.grow hb2 hr2); obtain ⟨A2, m2, c2, rfl⟩ := hr2.shp; clear hr2 hb2 hg2)
                      go_roundw
                      case rel => exact ⟨i + 1, by omega, by go_num, Lib.hid (by rw [HY.out]; exact HJ2.out)⟩
                      case measure => simp [intOf]; omega
                    · obtain rfl : i = m := by omega
                      go_wp2_with fail
                      go_roundw
                      case rel =>
                        refine ⟨P, _, by rw [hPl]; exact bl, h2, Lib.hid (by rw [HP.out]; exact Sq.Byt.cpy HB.out f i), HJ, Lib.hid ?_⟩
                        rw [← HUs.out, hPl, HP.out]
                        exact Sq.unpG_fuel L s n _ _ _ _ (by rw [← HP.out, hPl]; omega) (by rw [← HP.out, hPl]; omega)
                      case measure => show n - (l + i) < n - l; omega
                · rw [if_neg (by omega)] at hUs
                  have HUs := Lib.hid (show RT = (3, []) by rw [HRT.out, Sq.unpF, ← hUs, if_neg (by decide)])
                  have nz : r < m := by omega
                  clear hUs hrr h4
                  go_wp2_with (first | (go_at_call 26; (with_reducible refine HSY.out.mono ?_); rintro e w1 ⟨rfl, hj⟩; have HJ1 := Lib.hid hj; clear hj) | (go_at_call 27; (with_reducible refine (HSP.out _ HJ1.out).mono ?_); rintro e w2 ⟨rfl, hj⟩; have HJ2 := Lib.hid hj; clear hj) | (go_at_call 28; (with_reducible refine (HN1.out _ HJ2.out).mono ?_); rintro e w3 ⟨rfl, hj⟩; have HJ3 := Lib.hid hj; clear hj) | (go_at_call 28; (with_reducible refine (HN2.out _ HJ3.out).mono ?_); rintro e w4 ⟨rfl, hj⟩; have HJ4 := Lib.hid hj; clear hj))
                  go_ret2
                  rw [HUs.out]
                  exact ⟨rfl, HJ4.out.2.1⟩
              · rw [← HL.out, if_neg h3] at hUs
                have HUs := Lib.hid (show RT = (2, []) by rw [HRT.out, Sq.unpF, ← hUs, if_neg (by decide)])
                obtain ⟨f1, hf1⟩ : ∃ f1 : Int, f1 = (l : Int) - (b : Int) := ⟨_, rfl⟩
                have ef1 : (l : Int) - (b : Int) = f1 := hf1.symm
                have nf : f1 - 1 < 0 := by omega
                clear hUs h3 hf1
                go_wp2_with (first | (go_at_call 26; (with_reducible refine HSY.out.mono ?_); rintro e w1 ⟨rfl, hj⟩; have HJ1 := Lib.hid hj; clear hj) | (go_at_call 27; (with_reducible refine (HSP.out _ HJ1.out).mono ?_); rintro e w2 ⟨rfl, hj⟩; have HJ2 := Lib.hid hj; clear hj) | (go_at_call 28; (with_reducible refine (HN1.out _ HJ2.out).mono ?_); rintro e w3 ⟨rfl, hj⟩; have HJ3 := Lib.hid hj; clear hj) | (go_at_call 28; (with_reducible refine (HN2.out _ HJ3.out).mono ?_); rintro e w4 ⟨rfl, hj⟩; have HJ4 := Lib.hid hj; clear hj))
                go_ret2
                rw [HUs.out]
                exact ⟨rfl, HJ4.out.2.1⟩
            · rw [if_neg h2] at hUs
              have HUs := Lib.hid (show RT = (11, []) by rw [HRT.out, Sq.unpF, ← hUs, if_neg (by decide)])
              have HN2 := Lib.hid fun W (h : UJ w W gr s (q1 + x) (.slice A l cc) o) => show Calls Tryd.prog 28 #[.pointer (some ⟨gr, 0, none⟩), .int .i64 15] W _ from nos_u hs h 15 (Nat.le_refl _) h1 (by omega)
              clear hUs h2
              go_wp2_with (first | (go_at_call 26; (with_reducible refine HSY.out.mono ?_); rintro e w1 ⟨rfl, hj⟩; have HJ1 := Lib.hid hj; clear hj) | (go_at_call 27; (with_reducible refine (HSP.out _ HJ1.out).mono ?_); rintro e w2 ⟨rfl, hj⟩; have HJ2 := Lib.hid hj; clear hj) | (go_at_call 28; (with_reducible refine (HN1.out _ HJ2.out).mono ?_); rintro e w3 ⟨rfl, hj⟩; have HJ3 := Lib.hid hj; clear hj) | (go_at_call 28; (with_reducible refine (HN2.out _ HJ3.out).mono ?_); rintro e w4 ⟨rfl, hj⟩; have HJ4 := Lib.hid hj; clear hj))
              go_ret2
              rw [HUs.out]
              exact ⟨rfl, HJ4.out.2.1⟩
          · rw [if_neg (by omega)] at hUs
            have HUs := Lib.hid (show RT = (11, []) by rw [HRT.out, Sq.unpF, ← hUs, if_neg (by decide)])
            have HN1 := Lib.hid fun W (h : UJ w W gr s q1 (.slice A l cc) o) => nos_u hs h x (by omega) hb1 (by omega)
            have HN2 := Lib.hid fun W (h : UJ w W gr s (8 * s.size) (.slice A l cc) o) => show Calls Tryd.prog 28 #[.pointer (some ⟨gr, 0, none⟩), .int .i64 15] W _ from nos_u hs h 15 (Nat.le_refl _) (Nat.le_refl _) (by omega)
            clear hUs h1
            go_wp2_with (first | (go_at_call 26; (with_reducible refine HSY.out.mono ?_); rintro e w1 ⟨rfl, hj⟩; have HJ1 := Lib.hid hj; clear hj) | (go_at_call 27; (with_reducible refine (HSP.out _ HJ1.out).mono ?_); rintro e w2 ⟨rfl, hj⟩; have HJ2 := Lib.hid hj; clear hj) | (go_at_call 28; (with_reducible refine (HN1.out _ HJ2.out).mono ?_); rintro e w3 ⟨rfl, hj⟩; have HJ3 := Lib.hid hj; clear hj) | (go_at_call 28; (with_reducible refine (HN2.out _ HJ3.out).mono ?_); rintro e w4 ⟨rfl, hj⟩; have HJ4 := Lib.hid hj; clear hj))
            go_ret2
            rw [HUs.out]
            exact ⟨rfl, HJ4.out.2.1⟩
      · have HUs := Lib.hid (show RT = (e1, []) by
          rw [HRT.out, Sq.unpF, ← hUs, if_neg he1, if_neg he1])
        have he2 : e1 = 4 ∨ e1 = 11 := hb3.resolve_left he1
        clear hUs hb3
        rcases he2 with rfl | rfl
        all_goals
          go_wp2_with (go_at_call 26; (with_reducible refine HSY.out.mono ?_); rintro e w1 ⟨rfl, hj⟩; have HJ1 := Lib.hid hj; clear hj)
          go_ret2
          rw [HUs.out]
          exact ⟨rfl, HJ1.out.2.1⟩
    · obtain rfl : l = n := by omega
      have hUs := HU.out
      rw [Nat.sub_self, Sq.unpG] at hUs
      have HRQ := Lib.hid (show RT = if (Sq.padG s 8 q).1 = 0 then (if (Sq.padG s 8 q).2 < 8 * s.size then (4, []) else (0, o)) else (4, []) by rw [HRT.out, Sq.unpF, ← hUs, if_pos rfl])
      clear hUs
      go_wp2_with fail
      go_loopw [] (fun wp => ∃ (q2 k : Nat), q2 ≤ 8 * s.size ∧ Hid ((8 - q2 % 8) % 8 ≤ k) ∧ Hid (UJ w wp gr s q2 (.slice A l cc) o) ∧ Hid (Sq.padG s k q2 = Sq.padG s 8 q)) (fun wp => 8 * s.size - rdAt gr wp)
      case atStart => exact ⟨q, 8, hq, Lib.hid (by omega), HJ', Lib.hid rfl⟩
      case round =>
        clear HJ' hq
        rename_i wp hrel
        obtain ⟨q2, k, hq2, HK, HJ, HP⟩ := hrel
        obtain ⟨c0, c1⟩ := HJ.out.2.2.1.cells
        obtain ⟨r, hr⟩ : ∃ r, r = q2 % 8 := ⟨_, rfl⟩
        have e2 : (q2 : Int) % 8 = (r : Int) := by omega
        have hpk := HP.out
        by_cases hr0 : r = 0
        · subst hr0
          have hpk2 : Sq.padG s k q2 = (0, q2) := by
            cases k with
            | zero => rfl
            | succ k => rw [Sq.padG, if_pos hr.symm]
          rw [hpk2] at hpk
          have w0 : IntKind.i64.wrap (8 * (s.size : Int)) = 8 * (s.size : Int) := IntWalk.i64_in _ (by omega)
          rw [← hpk, if_pos rfl] at HRQ
          clear hpk hpk2 hr
          by_cases hsz : q2 < 8 * s.size
          · rw [if_pos hsz] at HRQ
            have hz : (q2 : Int) < 8 * (s.size : Int) := by omega
            go_wp2_with fail
            go_quiet (fail)
            go_wp2
            go_ret2
            rw [HRQ.out]
            exact ⟨rfl, HJ.out.2.1.drewN _⟩
          · rw [if_neg hsz] at HRQ
            have hz : ¬ (q2 : Int) < 8 * (s.size : Int) := by omega
            have HST := Lib.hid fun k => str_u (HJ.out.drewN k) HB.out
            go_wp2_with fail
            go_quiet (fail)
            go_wp2
            rw [HST.out]
            go_wp2
            go_ret2
            rw [HRQ.out]
            exact ⟨rfl, HJ.out.2.1.drewN _⟩
        · have hq3 : q2 < 8 * s.size := by omega
          obtain ⟨k1, rfl⟩ : ∃ k1, k = k1 + 1 := ⟨k - 1, by have := HK.out; omega⟩
          rw [Sq.padG, if_neg (by rw [← hr]; exact hr0)] at hpk
          have HBt := Lib.hid (bit_u hs HJ.out hq3)
          have hrd := Lib.hid HJ.out.2.2.1.rdAt
          obtain ⟨b, hb5⟩ : ∃ b, b = bitN s q2 := ⟨_, rfl⟩
          have hb6 : b < 2 := hb5 ▸ bitN_lt s q2
          rw [← hb5] at HBt hpk
          have nr : ¬ (r : Int) = 0 := by omega
          have HK2 := Lib.hid (show (8 - (q2 + 1) % 8) % 8 ≤ k1 by have := HK.out; omega)
          clear hb5 hr0 HK hr
          by_cases hb7 : b = 0
          · subst hb7
            rw [if_pos rfl] at hpk
            have HPK := Lib.hid hpk
            clear hpk
            go_wp2_with (go_at_call 29; (with_reducible refine HBt.out.mono ?_); rintro e w1 ⟨rfl, hj⟩; have HJ1 := Lib.hid hj; clear hj)
            go_roundw
            case rel => exact ⟨q2 + 1, k1, hq3, HK2, HJ1, HPK⟩
            case measure =>
              have h8 := hrd.out
              have h9 := HJ1.out.2.2.1.rdAt
              omega
          · rw [if_neg hb7] at hpk
            rw [← hpk, if_neg (by decide)] at HRQ
            have nb : ¬ (b : Int) = 0 := by omega
            clear hpk
            go_wp2_with (go_at_call 29; (with_reducible refine HBt.out.mono ?_); rintro e w1 ⟨rfl, hj⟩; have HJ1 := Lib.hid hj; clear hj)
            go_ret2
            rw [HRQ.out]
            exact ⟨rfl, HJ1.out.2.1⟩
end Go.Proofs.YtcojoigbcfaajaaDoor
