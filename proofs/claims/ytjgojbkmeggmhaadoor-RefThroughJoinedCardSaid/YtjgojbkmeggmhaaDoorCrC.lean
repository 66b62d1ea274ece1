/- Contracts of cellref: name, Plain. -/
import Derived.Test.YtjgojbkmeggmhaaDoorCrE
import Derived.Deep.RegionHeld3
import Derived.BigQuiet
namespace Go.Proofs.YtjgojbkmeggmhaaDoor
open Go.RowKit

namespace Cr
/-- A byte of the name of a sheet. -/
def nameI (n : Int) : Bool := decide (32 ≤ n) && decide (n ≤ 126)
def nameE (l : List UInt8) : Int := if 200 < l.length then 3 else if (l.all fun c => nameI (c.toNat : Int)) = true then 0 else 9
theorem nameE_bad {l : List UInt8} (h2 : ¬ 200 < l.length) {i : Nat} (hi : i < l.length) (h : nameI (l[i].toNat : Int) = false) : nameE l = 9 := by
  rw [nameE, if_neg h2, if_neg]
  intro h'
  rw [List.all_eq_true] at h'
  have := h' l[i] (List.getElem_mem hi)
  rw [h] at this; cases this
theorem nameE_good {l : List UInt8} (h2 : ¬ 200 < l.length) (h : ∀ i (hi : i < l.length), nameI (l[i].toNat : Int) = true) : nameE l = 0 := by
  rw [nameE, if_neg h2, if_pos]
  rw [List.all_eq_true]
  intro c hc
  obtain ⟨i, hi, rfl⟩ := List.getElem_of_mem hc
  exact h i hi
/-- Whether the name of a sheet is written without apostrophes. -/
def plainI (k : Nat) (n : Int) : Bool := letterI n || (decide (k ≠ 0) && (digitI n || decide (n = 95)))
def plain (l : List UInt8) : Bool := !l.isEmpty && (List.range l.length).all fun k => plainI k ((l.getD k 0).toNat : Int)
theorem plain_bad {l : List UInt8} {i : Nat} (hi : i < l.length) (h : plainI i (l[i].toNat : Int) = false) : plain l = false := by
  have : ((List.range l.length).all fun k => plainI k ((l.getD k 0).toNat : Int)) = false := by
    rw [List.all_eq_false]
    exact ⟨i, List.mem_range.2 hi, by simp [List.getD, hi, h]⟩
  rw [plain, this, Bool.and_false]
theorem plain_good {l : List UInt8} (h : ∀ i (hi : i < l.length), plainI i (l[i].toNat : Int) = true) : plain l = !l.isEmpty := by
  have : ((List.range l.length).all fun k => plainI k ((l.getD k 0).toNat : Int)) = true := by
    rw [List.all_eq_true]
    intro k hk
    have := List.mem_range.1 hk
    simpa [List.getD, this] using h k this
  rw [plain, this, Bool.and_true]
end Cr

theorem digit_any (n : Int) (w : World) :
    Calls Tryd.prog 100 #[.int .u8 n] w fun e w' => e = .returned (.bool (Cr.digitI n)) ∧ w = w' := by
  go_enter Tryd.func100, Tryd.ntmps100
  go_wp2
  all_goals (go_ret; exact ⟨ret_bool (by rw [Bool.eq_iff_iff]; simp [Cr.digitI] <;> omega), rfl⟩)

theorem name_any (s : ByteArray) (w : World) (hs : s.size ≤ maxLen) :
    Calls Tryd.prog 42 #[.string s] w fun e w' => e = .returned (.int .i64 (Cr.nameE s.data.toList)) ∧ w = w' := by
  unfold maxLen at hs
  by_cases h2 : 200 < s.size
  · have e1 : Cr.nameE s.data.toList = 3 := by rw [Cr.nameE, if_pos (by simpa using h2)]
    have E1 := Lib.hid e1
    clear e1
    go_enter Tryd.func42, Tryd.ntmps42
    go_wp2
    go_ret
    exact ⟨ret_int E1.out.symm, rfl⟩
  have h2' : ¬ 200 < s.data.toList.length := by simpa using h2
  have H2 := Lib.hid h2'
  clear h2'
  go_enter Tryd.func42, Tryd.ntmps42
  go_wp2
  go_loop [9] (fun i => ∃ k : Nat, k ≤ s.size ∧ i = .int .i64 k ∧ ∀ i (hi : i < s.data.toList.length), i < k → Cr.nameI (s.data.toList[i].toNat : Int) = true) (fun i => s.size - (intOf i).toNat)
  case atStart => exact ⟨0, by omega, rfl, fun i _ h => absurd h (by omega)⟩
  case round =>
    obtain ⟨k, hk, rfl, hall⟩ := hrel
    have HA := Lib.hid hall
    clear hall
    by_cases hlt : k < s.size
    · have hkl : k < s.data.toList.length := by simpa using hlt
      cases hb : Cr.nameI (s[k].toNat : Int)
      · have e1 := Cr.nameE_bad H2.out hkl hb
        have E1 := Lib.hid e1
        have hc : (s[k].toNat : Int) < 32 ∨ 126 < (s[k].toNat : Int) := by simp [Cr.nameI] at hb; omega
        clear e1 hb
        rcases hc with hc | hc
        · go_wp2
          go_ret
          exact ⟨ret_int E1.out.symm, rfl⟩
        · go_wp2
          go_ret
          exact ⟨ret_int E1.out.symm, rfl⟩
      · have hc : 32 ≤ (s[k].toNat : Int) ∧ (s[k].toNat : Int) ≤ 126 := by simpa [Cr.nameI] using hb
        obtain ⟨c1, c2⟩ := hc
        have HB := Lib.hid hb
        clear hb
        go_wp2
        go_round
        case rel =>
          refine ⟨k + 1, by omega, by go_num, fun i hi h => ?_⟩
          by_cases hik : i = k
          · subst hik; exact HB.out
          · exact HA.out i hi (by omega)
        case measure => simp [intOf]; omega
    · have e1 := Cr.nameE_good H2.out (fun i hi => HA.out i hi (by simp at hi; omega))
      have E1 := Lib.hid e1
      clear e1
      go_wp2
      go_ret
      exact ⟨ret_int E1.out.symm, rfl⟩

theorem plain_any (s : ByteArray) (w : World) (hs : s.size ≤ maxLen) :
    Calls Tryd.prog 78 #[.string s] w fun e w' => e = .returned (.bool (Cr.plain s.data.toList)) ∧ w = w' := by
  unfold maxLen at hs
  go_enter Tryd.func78, Tryd.ntmps78
  go_wp2
  go_loop [7] (fun i => ∃ k : Nat, k ≤ s.size ∧ i = .int .i64 k ∧ ∀ i (hi : i < s.data.toList.length), i < k → Cr.plainI i (s.data.toList[i].toNat : Int) = true) (fun i => s.size - (intOf i).toNat)
  case atStart => exact ⟨0, by omega, rfl, fun i _ h => absurd h (by omega)⟩
  case round =>
    obtain ⟨k, hk, rfl, hall⟩ := hrel
    have HA := Lib.hid hall
    clear hall
    by_cases hlt : k < s.size
    · have hkl : k < s.data.toList.length := by simpa using hlt
      by_cases hb : Cr.plainI k (s[k].toNat : Int) = true
      · have hstep : ∀ i (hi : i < s.data.toList.length), i < k + 1 → Cr.plainI i (s.data.toList[i].toNat : Int) = true := fun i hi h => by
          by_cases hik : i = k
          · subst hik; exact hb
          · exact HA.out i hi (by omega)
        have HS := Lib.hid hstep
        have hb' : Cr.letterI (s[k].toNat : Int) = true ∨ (Cr.letterI (s[k].toNat : Int) = false ∧ 0 < k ∧ Cr.digitI (s[k].toNat : Int) = true) ∨ (Cr.letterI (s[k].toNat : Int) = false ∧ 0 < k ∧ Cr.digitI (s[k].toNat : Int) = false ∧ (s[k].toNat : Int) = 95) := by
          simp only [Cr.plainI, Bool.or_eq_true, Bool.and_eq_true, decide_eq_true_eq] at hb
          cases hl : Cr.letterI (s[k].toNat : Int)
          · rw [hl] at hb
            rcases hb with hb | ⟨h1, h2⟩
            · cases hb
            · cases hd : Cr.digitI (s[k].toNat : Int)
              · rw [hd] at h2
                rcases h2 with h2 | h2
                · cases h2
                · exact .inr (.inr ⟨rfl, by omega, rfl, h2⟩)
              · exact .inr (.inl ⟨rfl, by omega, rfl⟩)
          · exact .inl rfl
        clear hstep hb
        rcases hb' with hl | ⟨hl, h0, hd⟩ | ⟨hl, h0, hd, h95⟩
        · go_wp2_with (first | (go_at_call 99; refine (letter_any _ _).mono ?_; rintro e w' ⟨rfl, rfl⟩) | (go_at_call 100; refine (digit_any _ _).mono ?_; rintro e w' ⟨rfl, rfl⟩))
          go_round
          case rel => exact ⟨k + 1, by omega, by go_num, HS.out⟩
          case measure => simp [intOf]; omega
        · have hk0 : ((k : Int) == 0) = false := by simp; omega
          go_wp2_with (first | (go_at_call 99; refine (letter_any _ _).mono ?_; rintro e w' ⟨rfl, rfl⟩) | (go_at_call 100; refine (digit_any _ _).mono ?_; rintro e w' ⟨rfl, rfl⟩))
          go_round
          case rel => exact ⟨k + 1, by omega, by go_num, HS.out⟩
          case measure => simp [intOf]; omega
        · have hk0 : ((k : Int) == 0) = false := by simp; omega
          have h95' : ((s[k].toNat : Int) != 95) = false := by simp; omega
          have H95 := Lib.hid h95
          clear h95
          go_wp2_with (first | (go_at_call 99; refine (letter_any _ _).mono ?_; rintro e w' ⟨rfl, rfl⟩) | (go_at_call 100; refine (digit_any _ _).mono ?_; rintro e w' ⟨rfl, rfl⟩))
          go_round
          case rel => exact ⟨k + 1, by omega, by go_num, HS.out⟩
          case measure => simp [intOf]; omega
      · have e1 := Cr.plain_bad hkl (Bool.eq_false_iff.2 hb)
        have E1 := Lib.hid e1
        have hb' : Cr.letterI (s[k].toNat : Int) = false ∧ (k = 0 ∨ (0 < k ∧ Cr.digitI (s[k].toNat : Int) = false ∧ (s[k].toNat : Int) ≠ 95)) := by
          simp only [Cr.plainI, Bool.or_eq_true, Bool.and_eq_true, decide_eq_true_eq, not_or, not_and, Bool.not_eq_true] at hb
          refine ⟨hb.1, ?_⟩
          by_cases h0 : k = 0
          · exact .inl h0
          · exact .inr ⟨by omega, (hb.2 h0).1, (hb.2 h0).2⟩
        clear e1 hb
        obtain ⟨hl, rfl | ⟨h0, hd, h95⟩⟩ := hb'
        · go_wp2_with (first | (go_at_call 99; refine (letter_any _ _).mono ?_; rintro e w' ⟨rfl, rfl⟩) | (go_at_call 100; refine (digit_any _ _).mono ?_; rintro e w' ⟨rfl, rfl⟩))
          go_ret
          exact ⟨ret_bool E1.out.symm, rfl⟩
        · have hk0 : ((k : Int) == 0) = false := by simp; omega
          have h95' : ((s[k].toNat : Int) != 95) = true := by simp; omega
          clear h95
          go_wp2_with (first | (go_at_call 99; refine (letter_any _ _).mono ?_; rintro e w' ⟨rfl, rfl⟩) | (go_at_call 100; refine (digit_any _ _).mono ?_; rintro e w' ⟨rfl, rfl⟩))
          go_ret
          exact ⟨ret_bool E1.out.symm, rfl⟩
    · have e1 := Cr.plain_good (fun i hi => HA.out i hi (by simp at hi; omega))
      have e2 : s.toList = s.data.toList := Lib.toList_data s
      have E1 := Lib.hid e1
      have E2 := Lib.hid e2
      clear e1 e2
      go_wp2
      go_ret
      exact ⟨ret_bool (by rw [E1.out, ← E2.out]), rfl⟩

end Go.Proofs.YtjgojbkmeggmhaaDoor
