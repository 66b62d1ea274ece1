/- PivotOrderless: the law, from its start. -/
import Derived.Test.YtmapagbmihpbmaaGreatDoorGas
import Derived.Test.YtmapagbmihpbmaaGreatDoorGar
import Derived.Test.YtmapagbmihpbmaaGreatDoorPwM
import Derived.Test.YtmapagbmihpbmaaGreatDoorShelf
set_option linter.unusedSimpArgs false
set_option linter.unusedVariables false
namespace Go.Proofs.YtmapagbmihpbmaaGreatDoor
open Go.RowKit

set_option maxRecDepth 100000 in
set_option maxHeartbeats 40000000 in
theorem orderless_w (A : Option Addr) (n c : Nat) (Z : List Int) (hw : Int) (w : World) (he : VEnv w) (hZ : RdZ w (.slice A n c) Z) (hn : n ≤ 9223372036854775807) (hx : ∀ x ∈ Z, -9223372036854775808 ≤ x ∧ x ≤ 9223372036854775807) (hhw : -9223372036854775808 ≤ hw ∧ hw ≤ 9223372036854775807) :
    Calls Tryz.prog 4 #[.slice A n c, .int .i64 hw] w fun e w' => e = .returned (.bool true) ∧ Below w.heap.size w w' := by
  obtain ⟨m, hm⟩ : ∃ m, m = min n 40 / 3 := ⟨_, rfl⟩
  have hm13 : m ≤ 13 := by omega
  have HMX := Lib.hid (mixed_own A n c Z w he hZ hn hx m hm)
  have HE := Lib.hid he
  have HTL := Lib.hid (show ∀ k W, Calls Tryz.prog 10 #[.string (wdL k)] W fun e w' => e = .returned (.string (lwL k)) ∧ Below W.heap.size W w' from fun k W => by
    have := Tryz.strings_ToLower_ascii (wdL k) W (wd_small k) (wd_asc k)
    rw [wd_low] at this
    exact this)
  clear hZ hn hx hm he
  go_enter Tryz.func4, Tryz.ntmps4
  go_upto_region 2 with (go_at_call 5; (with_reducible refine HMX.out.mono ?_); rintro e w1 ⟨g, cc, rfl, ho, hb⟩; have HO1 := Lib.hid ho; have HB1 := Lib.hid hb; clear ho hb HMX)
  obtain ⟨V, hV⟩ : ∃ V, V = w1.heap.size := ⟨_, rfl⟩
  have hgl := (RowOf.lt HO1.out g rfl)
  obtain ⟨hia, hTc, hgb⟩ := ia_row HO1.out (by omega) (itms_len 3 Z _) (f := itm 3 Z) (fun i hi => by
    unfold itms
    rw [List.getElem?_map, List.getElem?_range hi]
    rfl)
  have HL1 := Lib.hid (((Loc.start w).step HB1.out).alloc' hV.symm 27 #[.int .i64 5, .string ⟨#[]⟩, .string ⟨#[]⟩, .string ⟨#[]⟩, .bool false, .int .i64 0, .int .i64 ((m : Int) + 2), .int .i64 3, .slice (some ⟨g, 0, none⟩) ((m + 2) * 3) cc])
  have HI1 := Lib.hid ((hia.later (below_new w1 (.cells #[.int .i64 5, .string ⟨#[]⟩, .string ⟨#[]⟩, .string ⟨#[]⟩, .bool false, .int .i64 0, .int .i64 ((m : Int) + 2), .int .i64 3, .slice (some ⟨g, 0, none⟩) ((m + 2) * 3) cc] 27))).congr (fun i _ => (lowF_zero Z i).symm))
  have hVg : V ≠ g := by omega
  clear hia HO1 HB1
  rw [← hV]
  revert HL1 HI1
  generalize w1.alloc (.cells #[.int .i64 5, .string ⟨#[]⟩, .string ⟨#[]⟩, .string ⟨#[]⟩, .bool false, .int .i64 0, .int .i64 ((m : Int) + 2), .int .i64 3, .slice (some ⟨g, 0, none⟩) ((m + 2) * 3) cc] 27) = W1
  intro HL1 HI1
  clear hV
  have c8 : W1.cell? ⟨V, 8, none⟩ = some (.slice (some ⟨g, 0, none⟩) ((m + 2) * 3) cc) := (HL1.out.blk (g := V) (t := 27) (List.mem_cons_self ..)).cell 8
  go_upto_block 0 with fail
  clear c8
  go_cut [24] (fun u24 wz => Hid (Loc w [(V, 27, #[.int .i64 5, .string ⟨#[]⟩, .string ⟨#[]⟩, .string ⟨#[]⟩, .bool false, .int .i64 0, .int .i64 ((m : Int) + 2), .int .i64 3, .slice (some ⟨g, 0, none⟩) ((m + 2) * 3) cc])] wz) ∧ Hid (IA wz g ((m + 2) * 3) (lowF Z ((m + 2) * 3))))
  case first =>
    go_wp2_with fail
    go_loopw [24] (fun u24 wz => ∃ i : Nat, i ≤ (m + 2) * 3 ∧ u24 = .int .i64 (i : Int) ∧ Hid (Loc w [(V, 27, #[.int .i64 5, .string ⟨#[]⟩, .string ⟨#[]⟩, .string ⟨#[]⟩, .bool false, .int .i64 0, .int .i64 ((m : Int) + 2), .int .i64 3, .slice (some ⟨g, 0, none⟩) ((m + 2) * 3) cc])] wz) ∧ Hid (IA wz g ((m + 2) * 3) (lowF Z i))) (fun u _ => (m + 2) * 3 - (intOf u).toNat)
    case atStart => exact ⟨0, by omega, rfl, HL1, HI1⟩
    case round =>
      clear HL1 HI1
      obtain ⟨i, hi, rfl, HL, HI⟩ := hrel
      by_cases hlt : i < (m + 2) * 3
      · have hlz : (i : Int) < ((m : Int) + 2) * 3 := by omega
        have hc := fun q hq => HI.out.cell i hlt q hq
        rw [lowF_at Z i] at hc
        have HW := Lib.hid (itm_word Z i)
        have HN := Lib.hid (itm_nr Z i)
        have HH := Lib.hid (itm_head Z i)
        have i0 : 0 ≤ (i : Int) := by omega
        have i1 : IntKind.i64.wrap ((i : Int) + 1) = (i : Int) + 1 := IntWalk.i64_in _ (by omega)
        by_cases hcase : i < 3 ∨ i % 3 = 2
        · have HCS := Lib.hid hcase
          obtain ⟨u, hu, hk⟩ : ∃ u, u = itm 3 Z i ∧ (u.k = 2 ∧ i < 3 ∨ u.k = 1) := ⟨_, rfl, by
            by_cases h3 : i < 3
            · rw [HH.out h3]; exact .inl ⟨rfl, h3⟩
            · rw [HN.out h3 (by omega)]; exact .inr rfl⟩
          rw [← hu] at hc
          obtain ⟨k, num, den, text, on, code, rows, cols, A1, n1, c1⟩ := u
          clear hu hcase
          have c0 : wr.cell? ⟨g, i * 9, none⟩ = some (.int .i64 k) := hc 0 (by decide)
          have c1' : wr.cell? ⟨g, i * 9 + 1, none⟩ = some (.string num) := hc 1 (by decide)
          have c2 : wr.cell? ⟨g, i * 9 + 2, none⟩ = some (.string den) := hc 2 (by decide)
          have c3 : wr.cell? ⟨g, i * 9 + 3, none⟩ = some (.string text) := hc 3 (by decide)
          have c4 : wr.cell? ⟨g, i * 9 + 4, none⟩ = some (.bool on) := hc 4 (by decide)
          have c5 : wr.cell? ⟨g, i * 9 + 5, none⟩ = some (.int .i64 code) := hc 5 (by decide)
          have c6 : wr.cell? ⟨g, i * 9 + 6, none⟩ = some (.int .i64 rows) := hc 6 (by decide)
          have c7 : wr.cell? ⟨g, i * 9 + 7, none⟩ = some (.int .i64 cols) := hc 7 (by decide)
          have c8 : wr.cell? ⟨g, i * 9 + 8, none⟩ = some (.slice A1 n1 c1) := hc 8 (by decide)
          clear hc
          rcases hk with ⟨hk, h3⟩ | hk
          · have hk : k = 2 := hk
            subst hk
            have h3z : ¬ (3 : Int) ≤ (i : Int) := by omega
            go_wp2_with fail
            go_roundw
            case rel => exact ⟨i + 1, by omega, by go_num, Lib.hid (HL.out.step (below_new _ _)), Lib.hid ((HI.out.later (below_new _ _)).congr fun x _ => low_same Z i HCS.out x)⟩
            case measure => simp [intOf]; omega
          · have hk : k = 1 := hk
            subst hk
            go_wp2_with fail
            go_roundw
            case rel => exact ⟨i + 1, by omega, by go_num, Lib.hid (HL.out.step (below_new _ _)), Lib.hid ((HI.out.later (below_new _ _)).congr fun x _ => low_same Z i HCS.out x)⟩
            case measure => simp [intOf]; omega
        · have h3 : ¬ i < 3 := fun h => hcase (.inl h)
          have h2 : ¬ i % 3 = 2 := fun h => hcase (.inr h)
          rw [HW.out h3 h2] at hc
          have HPT := Lib.hid (low_put Z i h3 h2)
          clear hcase h2 HW HN HH
          obtain ⟨d, hd⟩ : ∃ d, d = (xAt Z i % 4).toNat := ⟨_, rfl⟩
          rw [← hd] at hc HPT
          clear hd
          have c0 : wr.cell? ⟨g, i * 9, none⟩ = some (.int .i64 2) := hc 0 (by decide)
          have c1 : wr.cell? ⟨g, i * 9 + 1, none⟩ = some (.string ⟨#[]⟩) := hc 1 (by decide)
          have c2 : wr.cell? ⟨g, i * 9 + 2, none⟩ = some (.string ⟨#[]⟩) := hc 2 (by decide)
          have c3 : wr.cell? ⟨g, i * 9 + 3, none⟩ = some (.string (wdL d)) := hc 3 (by decide)
          have c4 : wr.cell? ⟨g, i * 9 + 4, none⟩ = some (.bool false) := hc 4 (by decide)
          have c5 : wr.cell? ⟨g, i * 9 + 5, none⟩ = some (.int .i64 0) := hc 5 (by decide)
          have c6 : wr.cell? ⟨g, i * 9 + 6, none⟩ = some (.int .i64 0) := hc 6 (by decide)
          have c7 : wr.cell? ⟨g, i * 9 + 7, none⟩ = some (.int .i64 0) := hc 7 (by decide)
          have c8 : wr.cell? ⟨g, i * 9 + 8, none⟩ = some (.slice none 0 0) := hc 8 (by decide)
          clear hc
          have h3z : (3 : Int) ≤ (i : Int) := by omega
          go_upto_region 6 with fail
          clear c0 c1 c2 c3 c4 c5 c6 c7 c8
          obtain ⟨X, hX⟩ : ∃ X, X = wr.heap.size := ⟨_, rfl⟩
          have HL2 := Lib.hid (HL.out.alloc' (g := X) hX.symm 27 #[.int .i64 2, .string ⟨#[]⟩, .string ⟨#[]⟩, .string (wdL d), .bool false, .int .i64 0, .int .i64 0, .int .i64 0, .slice none 0 0])
          have HI2 := Lib.hid (HI.out.later (below_new wr (.cells #[.int .i64 2, .string ⟨#[]⟩, .string ⟨#[]⟩, .string (wdL d), .bool false, .int .i64 0, .int .i64 0, .int .i64 0, .slice none 0 0] 27)))
          have hXg : X ≠ g := by have := HI.out.lt; omega
          clear HL HI
          rw [← hX]
          revert HL2 HI2
          generalize wr.alloc (.cells #[.int .i64 2, .string ⟨#[]⟩, .string ⟨#[]⟩, .string (wdL d), .bool false, .int .i64 0, .int .i64 0, .int .i64 0, .slice none 0 0] 27) = W2
          intro HL2 HI2
          clear hX
          have e8 : W2.cell? ⟨V, 8, none⟩ = some (.slice (some ⟨g, 0, none⟩) ((m + 2) * 3) cc) := (HL2.out.blk (g := V) (t := 27) (List.mem_cons_of_mem _ (List.mem_cons_self ..))).cell 8
          have x3 : W2.cell? ⟨X, 3, none⟩ = some (.string (wdL d)) := (HL2.out.blk (g := X) (t := 27) (List.mem_cons_self ..)).cell 3
          have HSS := Lib.hid (show ∀ W, Loc w [(X, 27, #[.int .i64 2, .string ⟨#[]⟩, .string ⟨#[]⟩, .string (wdL d), .bool false, .int .i64 0, .int .i64 0, .int .i64 0, .slice none 0 0]), (V, 27, #[.int .i64 5, .string ⟨#[]⟩, .string ⟨#[]⟩, .string ⟨#[]⟩, .bool false, .int .i64 0, .int .i64 ((m : Int) + 2), .int .i64 3, .slice (some ⟨g, 0, none⟩) ((m + 2) * 3) cc])] W → W.cell? ⟨V, 8, none⟩ = some (.slice (some ⟨g, 0, none⟩) ((m + 2) * 3) cc) ∧ W.cell? ⟨X, 3, none⟩ = some (.string (wdL d)) from fun W hW => ⟨(hW.blk (g := V) (t := 27) (List.mem_cons_of_mem _ (List.mem_cons_self ..))).cell 8, (hW.blk (g := X) (t := 27) (List.mem_cons_self ..)).cell 3⟩)
          have HPO := Lib.hid (show ∀ W y, Loc w [(X, 27, #[.int .i64 2, .string ⟨#[]⟩, .string ⟨#[]⟩, .string (wdL d), .bool false, .int .i64 0, .int .i64 0, .int .i64 0, .slice none 0 0]), (V, 27, #[.int .i64 5, .string ⟨#[]⟩, .string ⟨#[]⟩, .string ⟨#[]⟩, .bool false, .int .i64 0, .int .i64 ((m : Int) + 2), .int .i64 3, .slice (some ⟨g, 0, none⟩) ((m + 2) * 3) cc])] W → Loc w [(X, 27, #[.int .i64 2, .string ⟨#[]⟩, .string ⟨#[]⟩, .string (wdL d), .bool false, .int .i64 0, .int .i64 0, .int .i64 0, .slice none 0 0]), (V, 27, #[.int .i64 5, .string ⟨#[]⟩, .string ⟨#[]⟩, .string ⟨#[]⟩, .bool false, .int .i64 0, .int .i64 ((m : Int) + 2), .int .i64 3, .slice (some ⟨g, 0, none⟩) ((m + 2) * 3) cc])] (W.setCell ⟨g, i * 9 + 3, none⟩ y) from fun W y hW => hW.other (p := ⟨g, i * 9 + 3, none⟩) (by show w.heap.size ≤ g; omega) (fun x hx => by
            simp only [List.mem_cons, List.not_mem_nil, or_false] at hx
            rcases hx with rfl | rfl
            · exact hXg
            · exact hVg) y)
          clear hXg
          have HTX := Lib.hid (show ∀ W, IA W g ((m + 2) * 3) (lowF Z i) → W.cell? ⟨g, i * 9 + 3, none⟩ = some (.string (lowF Z i i).text) ∧ W.frozen? ⟨g, i * 9 + 3, none⟩ = false from fun W h => ⟨h.cell i hlt 3 (by decide), h.frozen _⟩)
          go_region_held3 (fun W => W.cell? ⟨V, 8, none⟩ = some (.slice (some ⟨g, 0, none⟩) ((m + 2) * 3) cc) ∧ W.cell? ⟨X, 3, none⟩ = some (.string (wdL d))) (first | exact ⟨by assumption, by assumption⟩ | exact HSS.out _ HL3.out | exact HSS.out _ (HPO.out _ _ HL3.out)) (first
            | (go_at_call 10; (with_reducible refine (HTL.out _ _).mono ?_); rintro e w3 ⟨rfl, hb⟩; have HB1 := Lib.hid ((Below.refl W2.heap.size W2).drew.trans hb); have HL3 := Lib.hid (HL2.out.step HB1.out); have HI3 := Lib.hid (HI2.out.later HB1.out); have s3 := (HTX.out _ HI3.out).1; have f3 := (HTX.out _ HI3.out).2; clear hb))
          all_goals
            clear s3 f3
            go_wp2_with fail
            go_roundw
            case rel => exact ⟨i + 1, by omega, by go_num, Lib.hid ((HPO.out _ _ HL3.out).perm (fun x hx => List.mem_cons_of_mem _ hx)), Lib.hid ((HI3.out.text hlt (lwL d)).congr fun x _ => HPT.out x)⟩
            case measure => simp [intOf]; omega
      · obtain rfl : i = (m + 2) * 3 := by omega
        have hlz : ¬ (((m + 2) * 3 : Nat) : Int) < ((m : Int) + 2) * 3 := by omega
        go_wp2_with fail
        go_meet
        exact ⟨HL, HI⟩
  case rest =>
    obtain ⟨HL9, HI9⟩ := hcut
    have e : (m : Int) + 2 = ((m + 1 : Nat) : Int) + 1 := by omega
    rw [e] at HL9
    go_step
    exact ord8 (R := m + 1) (Z := Z) (V := V) (gv := g) (cv := cc) (by omega) (by omega) hhw HE HL9 (Lib.hid ((HI9.out.congr (fun x hx => lowF_all Z _ x hx)).reads hTc)) hTc
end Go.Proofs.YtmapagbmihpbmaaGreatDoor
