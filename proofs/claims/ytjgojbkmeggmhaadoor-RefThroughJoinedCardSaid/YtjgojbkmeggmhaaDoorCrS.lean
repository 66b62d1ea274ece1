/- The contract of cellref.sheet. -/
import Derived.Test.YtjgojbkmeggmhaaDoorCrH
import Derived.Test.YtjgojbkmeggmhaaDoorCrR
import Derived.Test.YtjgojbkmeggmhaaDoorBld
namespace Go.Proofs.YtjgojbkmeggmhaaDoor
open Go.RowKit

abbrev sv (l : List UInt8) : Value := .string ⟨l.toArray⟩

theorem size_mk (l : List UInt8) : (⟨l.toArray⟩ : ByteArray).size = l.length := by simp [ByteArray.size]

theorem isEmpty_of (s : ByteArray) (h : s.size = 0) : s.toList.isEmpty = true := by
  rw [Lib.toList_data, List.isEmpty_iff]; apply List.eq_nil_of_length_eq_zero; simpa using h
theorem isEmpty_not (s : ByteArray) (h : ¬ s.size = 0) : s.toList.isEmpty = false := by
  rw [Lib.toList_data]
  cases hx : s.data.toList with
  | nil => exact absurd (by simpa using congrArg List.length hx) h
  | cons a l => rfl

/-- sheet, at a text that does not open with an apostrophe. -/
theorem sheet_plain (s : ByteArray) (w : World) (he : Env w) (hs : s.size ≤ 4000000000) (hp : Lib.hasPrefix s.data.toList [39] = false) :
    Calls Tryd.prog 73 #[.string s] w fun e w' => e = .returned (.tuple #[sv (Cr.sheetF s.data.toList).1, sv (Cr.sheetF s.data.toList).2.1, .bool (Cr.sheetF s.data.toList).2.2]) ∧ Below w.heap.size w w' := by
  obtain ⟨m, hm⟩ := he.max
  have hcut := Tryd.strings_Cut s ⟨#[33]⟩ m w (by omega) hm
  rw [show (⟨#[33]⟩ : ByteArray).data.toList = [33] from rfl] at hcut
  have hpre := Tryd.strings_HasPrefix s ⟨#[39]⟩ w
  rw [show (⟨#[39]⟩ : ByteArray).data.toList = [39] from rfl, hp] at hpre
  have hF : Cr.sheetF s.data.toList = if (Lib.cut s.data.toList [33]).2.2 = false ∨ s.data.toList = [35, 82, 69, 70, 33] then ([], s.data.toList, true) else ((Lib.cut s.data.toList [33]).1, (Lib.cut s.data.toList [33]).2.1, Cr.plain (Lib.cut s.data.toList [33]).1) := by
    rw [Cr.sheetF, if_neg (by rw [hp]; simp)]
  have hc1 : (Lib.cut s.data.toList [33]).1.length ≤ s.size := by
    unfold Lib.cut; split <;> simp <;> omega
  generalize Lib.cut s.data.toList [33] = c at *
  obtain ⟨c1, c2, c3⟩ := c
  generalize Cr.sheetF s.data.toList = F at *
  dsimp only at *
  have HC := Lib.hid hcut
  have HP := Lib.hid hpre
  have HF := Lib.hid hF
  clear hcut hpre hF hp
  cases c3
  · go_enter Tryd.func73, Tryd.ntmps73
    go_wp2_with (first | (go_at_call 27; refine HP.out.mono ?_; rintro e w' ⟨rfl, rfl⟩) | (go_at_call 74; refine HC.out.mono ?_; rintro e w' ⟨rfl, n, rfl⟩))
    go_ret3
    exact ⟨by rw [HF.out]; simp [sv], below_drewN (Below.refl _ _) _⟩
  · have hlx : (⟨c1.toArray⟩ : ByteArray).size ≤ maxLen := by rw [size_mk]; unfold maxLen; omega
    have hpl := fun W => plain_any ⟨c1.toArray⟩ W hlx
    rw [show (⟨c1.toArray⟩ : ByteArray).data.toList = c1 from rfl] at hpl
    have HL := Lib.hid hpl
    clear hpl
    by_cases hr : s.data.toList = [35, 82, 69, 70, 33]
    · have hr' : (s.toList == [35, 82, 69, 70, 33]) = true := by rw [Lib.toList_data, hr]; rfl
      have HR := Lib.hid hr
      clear hr
      go_enter Tryd.func73, Tryd.ntmps73
      go_wp2_with (first | (go_at_call 27; refine HP.out.mono ?_; rintro e w' ⟨rfl, rfl⟩) | (go_at_call 74; refine HC.out.mono ?_; rintro e w' ⟨rfl, n, rfl⟩) | (go_at_call 78; refine (HL.out _).mono ?_; rintro e w' ⟨rfl, rfl⟩))
      go_ret3
      exact ⟨by rw [HF.out, if_pos (.inr HR.out)]; simp [sv], below_drewN (Below.refl _ _) _⟩
    · have hr' : (s.toList == [35, 82, 69, 70, 33]) = false := by rw [Lib.toList_data]; simpa using hr
      have HR := Lib.hid hr
      clear hr
      go_enter Tryd.func73, Tryd.ntmps73
      go_wp2_with (first | (go_at_call 27; refine HP.out.mono ?_; rintro e w' ⟨rfl, rfl⟩) | (go_at_call 74; refine HC.out.mono ?_; rintro e w' ⟨rfl, n, rfl⟩) | (go_at_call 78; refine (HL.out _).mono ?_; rintro e w' ⟨rfl, rfl⟩))
      go_ret3
      exact ⟨by rw [HF.out, if_neg (by simpa using HR.out)]; rfl, below_drewN (Below.refl _ _) _⟩
theorem byte_ne39 {c : UInt8} (h : c ≠ 39) : ((c.toNat : Int) != 39) = true := by
  rw [bne_iff_ne]
  intro h'
  have h2 : c.toNat = (39 : UInt8).toNat := by
    have : (39 : UInt8).toNat = 39 := rfl
    omega
  exact h (UInt8.toNat_inj.1 h2)
theorem byteCells_snoc (l : List UInt8) (c : UInt8) : Lib.byteCells l ++ [.int .u8 c.toNat] = Lib.byteCells (l ++ [c]) := by simp [Lib.byteCells]

/-- sheet, at a text that opens with an apostrophe. -/
theorem sheet_quoted (s : ByteArray) (w : World) (hs : s.size ≤ 4000000000) (hp : Lib.hasPrefix s.data.toList [39] = true) :
    Calls Tryd.prog 73 #[.string s] w fun e w' => e = .returned (.tuple #[sv (Cr.sheetF s.data.toList).1, sv (Cr.sheetF s.data.toList).2.1, .bool (Cr.sheetF s.data.toList).2.2]) ∧ Below w.heap.size w w' := by
  have hpre := Tryd.strings_HasPrefix s ⟨#[39]⟩ w
  rw [show (⟨#[39]⟩ : ByteArray).data.toList = [39] from rfl, hp] at hpre
  have hF0 : Cr.scanQ (s.data.toList.drop 1) = none → Cr.sheetF s.data.toList = ([], [], false) := by
    intro ho
    rw [Cr.sheetF, if_pos hp, ho]
  have hF1 : ∀ b r, Cr.scanQ (s.data.toList.drop 1) = some (b, r) → Cr.sheetF s.data.toList = (b, Lib.trimPrefix r [33], Lib.hasPrefix r [33] && decide (b ≠ [])) := by
    intro b r ho
    rw [Cr.sheetF, if_pos hp, ho]
  have h1 : 1 ≤ s.size := by
    unfold Lib.hasPrefix at hp
    have := (List.isPrefixOf_iff_prefix.1 hp).length_le
    simpa using this
  have HP := Lib.hid hpre
  have HF0 := Lib.hid hF0
  have HF1 := Lib.hid hF1
  clear hpre hF0 hF1 hp
  go_enter Tryd.func73, Tryd.ntmps73
  go_wp2_with (first | (go_at_call 27; refine HP.out.mono ?_; rintro e w' ⟨rfl, hw⟩; obtain rfl := hw.symm; clear hw))
  go_loopw [9] (fun i wr => ∃ (k : Nat) (acc : List UInt8), k ≤ s.size ∧ 1 ≤ k ∧ acc.length ≤ k ∧ i = .int .i64 k ∧ Lib.IsBuilder 75 5 w.heap.size w.heap.size (Lib.byteCells acc) wr ∧ Below w.heap.size w wr ∧ Cr.scanQ (s.data.toList.drop 1) = (Cr.scanQ (s.data.toList.drop k)).map fun p => (acc ++ p.1, p.2)) (fun i _ => s.size - (intOf i).toNat)
  case atStart => exact ⟨1, [], h1, Nat.le_refl _, by simp, rfl, Lib.fresh_isBuilder _ _ _, (Below.refl _ _).alloc (Nat.le_refl _) _, by simp⟩
  case round =>
    obtain ⟨k, acc, hk, hk1, hal, rfl, hB, hb, hq⟩ := hrel
    have hbs := hb.size
    by_cases hlt : k < s.size
    · have hkl : k < s.data.toList.length := by simpa using hlt
      have hd : s.data.toList.drop k = s[k] :: s.data.toList.drop (k + 1) := List.drop_eq_getElem_cons hkl
      by_cases h39 : s[k] = 39
      · have hf : ((s[k].toNat : Int) != 39) = false := by rw [h39]; rfl
        by_cases htwo : ∃ h : k + 1 < s.size, s[k + 1] = 39
        · obtain ⟨hl2, h392⟩ := htwo
          have hd2 : s.data.toList.drop (k + 1) = s[k + 1] :: s.data.toList.drop (k + 2) := List.drop_eq_getElem_cons (by simpa using hl2)
          have hq2 : Cr.scanQ (s.data.toList.drop 1) = (Cr.scanQ (s.data.toList.drop (k + 2))).map fun p => ((acc ++ [39]) ++ p.1, p.2) := by
            rw [hq, hd, h39, hd2, h392, Cr.scanQ_two, Option.map_map]
            congr 1
            funext p
            simp
          have hf2 : ((s[k + 1].toNat : Int) == 39) = true := by rw [h392]; rfl
          have HQ := Lib.hid hq2
          have HB := Lib.hid hB
          clear hq hq2 hd hd2 h39 h392 hB
          go_wp2_with (first | (go_at_call 96; refine (writeByte_any w.heap.size w.heap.size _ _ _ HB.out ?hl0 ?hl1).mono ?_; (case hl0 => rw [Lib.byteCells_length]; omega); (case hl1 => exact hbs); rintro e w1 ⟨rfl, hB1, hb1⟩))
          go_roundw
          case rel =>
            refine ⟨k + 2, acc ++ [39], by omega, by omega, by simp; omega, by go_num, ?_, hb.trans hb1, HQ.out⟩
            rw [← byteCells_snoc]
            exact Or.inr hB1
          case measure => simp [intOf]; omega
        · have hhead : (s.data.toList.drop (k + 1)).head? ≠ some 39 := by
            intro h
            rw [List.head?_drop, List.getElem?_eq_some_iff] at h
            obtain ⟨hl, he⟩ := h
            exact htwo ⟨by simpa using hl, he⟩
          have e1 : Cr.scanQ (s.data.toList.drop 1) = some (acc, s.data.toList.drop (k + 1)) := by
            rw [hq, hd, h39, Cr.scanQ_end hhead]; simp
          have E1 := Lib.hid (HF1.out _ _ e1)
          have hsl : s.extract (k + 1) s.size = ⟨(s.data.toList.drop (k + 1)).toArray⟩ := by
            rw [Lib.extract_eq, List.take_of_length_le (by simp)]
          have hcut := fun W => Tryd.strings_CutPrefix (s.extract (k + 1) s.size) ⟨#[33]⟩ W
          rw [show (⟨#[33]⟩ : ByteArray).data.toList = [33] from rfl, hsl, show (⟨(s.data.toList.drop (k + 1)).toArray⟩ : ByteArray).data.toList = s.data.toList.drop (k + 1) from rfl, ← hsl] at hcut
          have HC := Lib.hid hcut
          have HB := Lib.hid (Lib.IsBuilderF.of hB)
          clear hq hd h39 hB hhead e1 hsl hcut
          by_cases hl2 : k + 1 < s.size
          · have hf2 : ((s[k + 1].toNat : Int) == 39) = false := by
              rw [beq_eq_false_iff_ne]
              have := byte_ne39 (c := s[k + 1]) (fun h => htwo ⟨hl2, h⟩)
              rwa [bne_iff_ne] at this
            clear htwo
            cases hfd : Lib.hasPrefix (s.data.toList.drop (k + 1)) [33]
            · go_wp2_with (first | (go_at_call 97; refine (HC.out _).mono ?_; rintro e w1 ⟨rfl, hw⟩; obtain rfl := hw.symm; clear hw) | (go_at_call 31; refine (Tryd.Builder_String_any_f w.heap.size w.heap.size acc _ HB.out hbs).mono ?_; rintro e w1 ⟨rfl, hB1, hb1⟩; clear HB) | (go_at_call 30; refine (Tryd.Builder_Len_f w.heap.size w.heap.size (Lib.byteCells acc) _ (by assumption)).mono ?_; rintro e w2 ⟨rfl, hw⟩; obtain rfl := hw.symm; clear hw))
              go_ret3
              exact ⟨by rw [E1.out, hfd]; rfl, hb.trans (by assumption)⟩
            · by_cases ha : acc.length = 0
              · have hz : ((Lib.byteCells acc).length : Int) ≤ 0 := by rw [Lib.byteCells_length]; omega
                obtain rfl : acc = [] := List.eq_nil_of_length_eq_zero ha
                clear ha
                go_wp2_with (first | (go_at_call 97; refine (HC.out _).mono ?_; rintro e w1 ⟨rfl, hw⟩; obtain rfl := hw.symm; clear hw) | (go_at_call 31; refine (Tryd.Builder_String_any_f w.heap.size w.heap.size [] _ HB.out hbs).mono ?_; rintro e w1 ⟨rfl, hB1, hb1⟩; clear HB) | (go_at_call 30; refine (Tryd.Builder_Len_f w.heap.size w.heap.size (Lib.byteCells []) _ (by assumption)).mono ?_; rintro e w2 ⟨rfl, hw⟩; obtain rfl := hw.symm; clear hw))
                go_ret3
                exact ⟨by rw [E1.out, hfd]; rfl, hb.trans (by assumption)⟩
              · have hz : 0 < ((Lib.byteCells acc).length : Int) := by rw [Lib.byteCells_length]; omega
                have hne : acc ≠ [] := fun h => ha (by rw [h]; rfl)
                have HNE := Lib.hid hne
                clear ha hne
                go_wp2_with (first | (go_at_call 97; refine (HC.out _).mono ?_; rintro e w1 ⟨rfl, hw⟩; obtain rfl := hw.symm; clear hw) | (go_at_call 31; refine (Tryd.Builder_String_any_f w.heap.size w.heap.size acc _ HB.out hbs).mono ?_; rintro e w1 ⟨rfl, hB1, hb1⟩; clear HB) | (go_at_call 30; refine (Tryd.Builder_Len_f w.heap.size w.heap.size (Lib.byteCells acc) _ (by assumption)).mono ?_; rintro e w2 ⟨rfl, hw⟩; obtain rfl := hw.symm; clear hw))
                go_ret3
                have hz2 : decide (0 < (Lib.byteCells acc).length) = true := decide_eq_true (by omega)
                have hdd : (true && decide (acc ≠ [])) = true := by simp [HNE.out]
                exact ⟨by rw [E1.out, hfd]; dsimp only; rw [hdd, hz2]; rfl, hb.trans (by assumption)⟩
          · clear htwo
            cases hfd : Lib.hasPrefix (s.data.toList.drop (k + 1)) [33]
            · go_wp2_with (first | (go_at_call 97; refine (HC.out _).mono ?_; rintro e w1 ⟨rfl, hw⟩; obtain rfl := hw.symm; clear hw) | (go_at_call 31; refine (Tryd.Builder_String_any_f w.heap.size w.heap.size acc _ HB.out hbs).mono ?_; rintro e w1 ⟨rfl, hB1, hb1⟩; clear HB) | (go_at_call 30; refine (Tryd.Builder_Len_f w.heap.size w.heap.size (Lib.byteCells acc) _ (by assumption)).mono ?_; rintro e w2 ⟨rfl, hw⟩; obtain rfl := hw.symm; clear hw))
              go_ret3
              exact ⟨by rw [E1.out, hfd]; rfl, hb.trans (by assumption)⟩
            · by_cases ha : acc.length = 0
              · have hz : ((Lib.byteCells acc).length : Int) ≤ 0 := by rw [Lib.byteCells_length]; omega
                obtain rfl : acc = [] := List.eq_nil_of_length_eq_zero ha
                clear ha
                go_wp2_with (first | (go_at_call 97; refine (HC.out _).mono ?_; rintro e w1 ⟨rfl, hw⟩; obtain rfl := hw.symm; clear hw) | (go_at_call 31; refine (Tryd.Builder_String_any_f w.heap.size w.heap.size [] _ HB.out hbs).mono ?_; rintro e w1 ⟨rfl, hB1, hb1⟩; clear HB) | (go_at_call 30; refine (Tryd.Builder_Len_f w.heap.size w.heap.size (Lib.byteCells []) _ (by assumption)).mono ?_; rintro e w2 ⟨rfl, hw⟩; obtain rfl := hw.symm; clear hw))
                go_ret3
                exact ⟨by rw [E1.out, hfd]; rfl, hb.trans (by assumption)⟩
              · have hz : 0 < ((Lib.byteCells acc).length : Int) := by rw [Lib.byteCells_length]; omega
                have hne : acc ≠ [] := fun h => ha (by rw [h]; rfl)
                have HNE := Lib.hid hne
                clear ha hne
                go_wp2_with (first | (go_at_call 97; refine (HC.out _).mono ?_; rintro e w1 ⟨rfl, hw⟩; obtain rfl := hw.symm; clear hw) | (go_at_call 31; refine (Tryd.Builder_String_any_f w.heap.size w.heap.size acc _ HB.out hbs).mono ?_; rintro e w1 ⟨rfl, hB1, hb1⟩; clear HB) | (go_at_call 30; refine (Tryd.Builder_Len_f w.heap.size w.heap.size (Lib.byteCells acc) _ (by assumption)).mono ?_; rintro e w2 ⟨rfl, hw⟩; obtain rfl := hw.symm; clear hw))
                go_ret3
                have hz2 : decide (0 < (Lib.byteCells acc).length) = true := decide_eq_true (by omega)
                have hdd : (true && decide (acc ≠ [])) = true := by simp [HNE.out]
                exact ⟨by rw [E1.out, hfd]; dsimp only; rw [hdd, hz2]; rfl, hb.trans (by assumption)⟩
      · have hq2 : Cr.scanQ (s.data.toList.drop 1) = (Cr.scanQ (s.data.toList.drop (k + 1))).map fun p => ((acc ++ [s[k]]) ++ p.1, p.2) := by
          rw [hq, hd, Cr.scanQ_other _ h39, Option.map_map]
          congr 1
          funext p
          simp
        have h39' := byte_ne39 h39
        have HQ := Lib.hid hq2
        have HB := Lib.hid hB
        clear hq hq2 hd h39 hB
        go_wp2_with (first | (go_at_call 96; refine (writeByte_any w.heap.size w.heap.size _ _ _ HB.out ?hl0 ?hl1).mono ?_; (case hl0 => rw [Lib.byteCells_length]; omega); (case hl1 => exact hbs); rintro e w1 ⟨rfl, hB1, hb1⟩))
        go_roundw
        case rel =>
          refine ⟨k + 1, acc ++ [s[k]], by omega, by omega, by simp; omega, by go_num, ?_, hb.trans hb1, HQ.out⟩
          rw [← byteCells_snoc]
          exact Or.inr hB1
        case measure => simp [intOf]; omega
    · have e1 : Cr.scanQ (s.data.toList.drop 1) = none := by
        rw [hq, List.drop_eq_nil_of_le (by simp; omega), Cr.scanQ_nil]; rfl
      have E1 := Lib.hid (HF0.out e1)
      clear e1 hq hB
      go_wp2_with fail
      go_ret3
      exact ⟨by rw [E1.out]; rfl, hb⟩
theorem sheet_any (s : ByteArray) (w : World) (he : Env w) (hs : s.size ≤ 4000000000) :
    Calls Tryd.prog 73 #[.string s] w fun e w' => e = .returned (.tuple #[sv (Cr.sheetF s.data.toList).1, sv (Cr.sheetF s.data.toList).2.1, .bool (Cr.sheetF s.data.toList).2.2]) ∧ Below w.heap.size w w' := by
  cases hp : Lib.hasPrefix s.data.toList [39]
  · exact sheet_plain s w he hs hp
  · exact sheet_quoted s w hs hp
end Go.Proofs.YtjgojbkmeggmhaaDoor
