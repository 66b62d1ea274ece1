/- Contracts of the small functions of cellref: letter, digit, permitted, letters, Letters, Column, name. -/
import Derived.Test.YtjgojbkmeggmhaaDoorRows
import Derived.Test.YtjgojbkmeggmhaaDoorCrP
import Derived.WalkKit
import Derived.WalkSpells
import Derived.WalkLawsBesides
import Derived.Outline
import Derived.Lib.Hide
import Derived.Handy
namespace Go.Proofs.YtjgojbkmeggmhaaDoor
open Go.RowKit

theorem ret_bool {a b : Bool} (h : a = b) : Ending.returned (.bool a) = .returned (.bool b) := by rw [h]
theorem ret_int {k : IntKind} {a b : Int} (h : a = b) : Ending.returned (.int k a) = .returned (.int k b) := by rw [h]
theorem ret_str {a b : ByteArray} (h : a = b) : Ending.returned (.string a) = .returned (.string b) := by rw [h]

theorem letter_any (n : Int) (w : World) :
    Calls Tryd.prog 99 #[.int .u8 n] w fun e w' => e = .returned (.bool (Cr.letterI n)) ∧ w = w' := by
  go_enter Tryd.func99, Tryd.ntmps99
  go_wp2
  all_goals (go_ret; exact ⟨ret_bool (by rw [Bool.eq_iff_iff]; simp [Cr.letterI] <;> omega), rfl⟩)
theorem permitted_any (n : Int) (w : World) :
    Calls Tryd.prog 44 #[.int .i64 n] w fun e w' => e = .returned (.bool (Cr.permitted n)) ∧ w = w' := by
  go_enter Tryd.func44, Tryd.ntmps44
  go_wp2
  all_goals (go_ret; exact ⟨ret_bool (by rw [Bool.eq_iff_iff]; simp [Cr.permitted] <;> omega), rfl⟩)

theorem conv_one (W : World) (n : Int) : (convert 29 9 (.slice (some ⟨W.heap.size, 0, none⟩) 1 1)).run Tryd.prog (W.alloc (.cells #[.int .u8 n] 5)) = .ok (.string ⟨#[UInt8.ofNat n.toNat]⟩) (W.alloc (.cells #[.int .u8 n] 5)) := by
  have h := run_convert_bytes_arg (P := Tryd.prog) (W.alloc (.cells #[.int .u8 n] 5)) 29 5 Tryd.underlying29 Tryd.underlying5 W.heap.size 0 1 1 [n] rfl (fun i hi => by
    obtain rfl : i = 0 := by omega
    simp) 9 Tryd.underlying9
  rw [h]; simp [strOfNums]

theorem cat_cons (x l : List UInt8) : (⟨x.toArray⟩ : ByteArray) ++ ⟨l.toArray⟩ = ⟨(x ++ l).toArray⟩ := by
  apply ByteArray.ext; simp

set_option maxRecDepth 100000 in
theorem letters_any (n : Nat) (w : World) (hn : n ≤ 1073741824) :
    Calls Tryd.prog 105 #[.int .i64 n] w fun e w' => e = .returned (.string ⟨(Cr.lt (n + 1)).toArray⟩) ∧ Below w.heap.size w w' := by
  have hcv := conv_one
  go_enter Tryd.func105, Tryd.ntmps105
  go_wp2
  go_loopw [3, 4] (fun s i wr => ∃ (k : Nat) (l : List UInt8), Cr.lt k ++ l = Cr.lt (n + 1) ∧ k ≤ n + 1 ∧ i = .int .i64 k ∧ s = .string ⟨l.toArray⟩ ∧ Below w.heap.size w wr) (fun _ i _ => (intOf i).toNat)
  case atStart => exact ⟨n + 1, [], by simp, by omega, rfl, rfl, Below.refl _ _⟩
  case round =>
    obtain ⟨k, l, h1, h2, rfl, rfl, hb⟩ := hrel
    have hl : l.length ≤ 7 := by
      have e := congrArg List.length h1
      have := Cr.lt_len 7 (n + 1) (by omega)
      simp at e; omega
    by_cases hk : 0 < k
    · have h3 : Cr.lt ((k - 1) / 26) ++ (UInt8.ofNat (65 + (k - 1) % 26) :: l) = Cr.lt (n + 1) := by
        rw [← h1, Cr.lt_pos hk]; simp
      have H3 := Lib.hid h3
      clear h1 h3
      go_wp2
      go_roundw
      case rel =>
        refine ⟨(k - 1) / 26, _, H3.out, by omega, by go_num, ?_, hb.alloc (by have := hb.size; omega) _⟩
        rw [show (⟨#[65 + UInt8.ofNat ((k - 1) % 26)]⟩ : ByteArray) = ⟨[65 + UInt8.ofNat ((k - 1) % 26)].toArray⟩ from rfl, cat_cons]
        simp
      case measure => simp [intOf]; omega
    · obtain rfl : k = 0 := by omega
      have H1 := Lib.hid h1
      clear h1
      go_wp2
      go_ret
      exact ⟨ret_str (by rw [← H1.out, Cr.lt_zero]; rfl), hb⟩

theorem byte_at (s : ByteArray) (k : Nat) (h : k < s.size) : s.data.toList[k]'(by simpa using h) = s[k] := rfl

theorem and31_bits (c : UInt8) : bits .and .u8 (c.toNat : Int) 31 = ((c.toNat &&& 31 : Nat) : Int) := by
  have h : ∀ k : Fin 256, bits .and .u8 (k.val : Int) 31 = ((k.val &&& 31 : Nat) : Int) := by decide +kernel
  exact h ⟨c.toNat, c.toNat_lt⟩

theorem column_any (s : ByteArray) (w : World) (hs : s.size ≤ maxLen) :
    Calls Tryd.prog 102 #[.string s] w fun e w' => e = .returned (.tuple #[.int .i64 (Cr.column s.data.toList).1, .int .i64 (Cr.column s.data.toList).2]) ∧ w = w' := by
  unfold maxLen at hs
  by_cases h0 : s.size = 0
  · have e1 : s.data.toList = [] := by apply List.eq_nil_of_length_eq_zero; simpa using h0
    have e2 : s.toList.isEmpty = true := by rw [Lib.toList_data, e1]; rfl
    have E1 := Lib.hid e1
    clear e1
    go_enter Tryd.func102, Tryd.ntmps102
    go_wp2
    go_ret2
    exact ⟨by rw [E1.out]; rfl, rfl⟩
  have e2 : s.toList.isEmpty = false := by
    rw [Lib.toList_data]
    cases hx : s.data.toList with
    | nil => exact absurd (by simpa using congrArg List.length hx) h0
    | cons a l => rfl
  by_cases h7 : 7 < s.size
  · have e1 : Cr.column s.data.toList = (0, 10) := by rw [Cr.column, if_pos (.inr (.inl (by simpa using h7)))]
    have E1 := Lib.hid e1
    clear e1
    go_enter Tryd.func102, Tryd.ntmps102
    go_wp2
    go_ret2
    exact ⟨by rw [E1.out]; rfl, rfl⟩
  · go_enter Tryd.func102, Tryd.ntmps102
    go_wp2
    go_loop [4, 15] (fun n i => ∃ k : Nat, k ≤ s.size ∧ i = .int .i64 k ∧ n = .int .i64 (Cr.colv (s.data.toList.take k)) ∧ Cr.letters (s.data.toList.take k) = true) (fun _ i => s.size - (intOf i).toNat)
    case atStart => exact ⟨0, by omega, rfl, rfl, rfl⟩
    case round =>
      obtain ⟨k, hk, rfl, rfl, hl⟩ := hrel
      have hc7 := Cr.colv_seven (l := s.data.toList.take k) (by simp; omega)
      have HL := Lib.hid hl
      clear hl
      by_cases hlt : k < s.size
      · cases hb : Cr.letterI (s[k].toNat : Int)
        · go_wp2_with (go_at_call 99; refine (letter_any _ _).mono ?_; rintro e w' ⟨rfl, rfl⟩)
          go_ret2
          exact ⟨by rw [Cr.column_bad (i := k) (by simpa using hlt) hb]; rfl, rfl⟩
        · have hs1 := Cr.colv_take s.data.toList k (by simpa using hlt)
          have hs2 := Cr.letters_step (l := s.data.toList) (k := k) (by simpa using hlt) HL.out hb
          have h31 := and31_bits s[k]
          have b31 : (s[k].toNat &&& 31) ≤ 31 := Nat.and_le_right
          have H1 := Lib.hid hs1
          have H2 := Lib.hid hs2
          clear hs1 hs2
          go_wp2_with (go_at_call 99; refine (letter_any _ _).mono ?_; rintro e w' ⟨rfl, rfl⟩)
          go_round
          case rel => exact ⟨k + 1, by omega, by go_num, by rw [H1.out]; go_num, H2.out⟩
          case measure => simp [intOf]; omega
      · have ek : s.data.toList.take k = s.data.toList := List.take_of_length_le (by simp; omega)
        have EK := Lib.hid ek
        clear ek
        by_cases hbig : 1073741824 < Cr.colv (s.data.toList.take k)
        · have e1 : Cr.column s.data.toList = (0, 2) := by
            rw [EK.out] at hbig
            have hl := HL.out
            rw [EK.out] at hl
            rw [Cr.column, if_neg, if_pos hbig]
            rintro (h | h | h)
            · exact h0 (by simpa using congrArg List.length h)
            · simp at h; omega
            · rw [hl] at h; cases h
          have E1 := Lib.hid e1
          clear e1
          go_wp2_with fail
          go_ret2
          exact ⟨by rw [E1.out]; rfl, rfl⟩
        · have e1 : Cr.column s.data.toList = ((Cr.colv (s.data.toList.take k) : Int) - 1, 0) := by
            rw [EK.out] at hbig
            have hl := HL.out
            rw [EK.out] at hl
            rw [EK.out]
            rw [Cr.column, if_neg, if_neg hbig]
            rintro (h | h | h)
            · exact h0 (by simpa using congrArg List.length h)
            · simp at h; omega
            · rw [hl] at h; cases h
          have E1 := Lib.hid e1
          clear e1
          go_wp2_with fail
          go_ret2
          exact ⟨by rw [E1.out]; rfl, rfl⟩
end Go.Proofs.YtjgojbkmeggmhaaDoor
