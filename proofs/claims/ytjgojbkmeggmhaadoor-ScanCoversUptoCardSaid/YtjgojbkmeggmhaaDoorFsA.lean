/- The contracts of fscan's small functions: letter, digit, corner, wordly, blank, run, isRef. -/
import Derived.Test.YtjgojbkmeggmhaaDoorFsP
import Derived.Test.YtjgojbkmeggmhaaDoorCrV
import Derived.Outline
namespace Go.Proofs.YtjgojbkmeggmhaaDoor
open Go.RowKit

theorem fs_letter (c : UInt8) (w : World) :
    Calls Tryd.prog 70 #[.int .u8 (c.toNat : Int)] w fun e w' => e = .returned (.bool (Cr.ltr c)) ∧ w = w' := by
  go_enter Tryd.func70, Tryd.ntmps70
  go_wp2
  all_goals (go_ret; exact ⟨ret_bool (by rw [Bool.eq_iff_iff]; simp [Cr.ltr, Cr.letterI] <;> omega), rfl⟩)
theorem fs_digit (c : UInt8) (w : World) :
    Calls Tryd.prog 67 #[.int .u8 (c.toNat : Int)] w fun e w' => e = .returned (.bool (Cr.dgt c)) ∧ w = w' := by
  go_enter Tryd.func67, Tryd.ntmps67
  go_wp2
  all_goals (go_ret; exact ⟨ret_bool (by rw [Bool.eq_iff_iff]; simp [Cr.dgt, Cr.digitI] <;> omega), rfl⟩)
theorem byte_eq (c : UInt8) (k : Nat) (hk : k < 256) : ((c.toNat : Int) == (k : Int)) = (c == UInt8.ofNat k) := by
  rw [Bool.eq_iff_iff, beq_iff_eq, beq_iff_eq, ← UInt8.toNat_inj, UInt8.toNat_ofNat_of_lt' (by simpa using hk)]
  omega
theorem fs_blank (c : UInt8) (w : World) :
    Calls Tryd.prog 64 #[.int .u8 (c.toNat : Int)] w fun e w' => e = .returned (.bool (Fs.blank c)) ∧ w = w' := by
  have h1 := byte_eq c 32 (by decide)
  have h2 := byte_eq c 9 (by decide)
  rw [show ((32 : Nat) : Int) = 32 from rfl] at h1
  rw [show ((9 : Nat) : Int) = 9 from rfl] at h2
  have H1 := Lib.hid (show Fs.blank c = (((c.toNat : Int) == 32) || ((c.toNat : Int) == 9)) from by rw [h1, h2]; rfl)
  clear h1 h2
  go_enter Tryd.func64, Tryd.ntmps64
  go_wp2
  all_goals (go_ret; exact ⟨ret_bool (by rw [H1.out] <;> simp [*]), rfl⟩)
theorem fs_corner (c : UInt8) (w : World) :
    Calls Tryd.prog 90 #[.int .u8 (c.toNat : Int)] w fun e w' => e = .returned (.bool (Fs.corner c)) ∧ w = w' := by
  have h1 := byte_eq c 36 (by decide)
  rw [show ((36 : Nat) : Int) = 36 from rfl] at h1
  have HC := Lib.hid (show Fs.corner c = ((Cr.ltr c || Cr.dgt c) || ((c.toNat : Int) == 36)) from by rw [h1]; rfl)
  clear h1
  go_enter Tryd.func90, Tryd.ntmps90
  go_wp2_with (first
    | (go_at_call 70; refine (fs_letter _ _).mono ?_; rintro e w' ⟨rfl, rfl⟩)
    | (go_at_call 67; refine (fs_digit _ _).mono ?_; rintro e w' ⟨rfl, rfl⟩))
  all_goals (go_ret; exact ⟨ret_bool (by rw [HC.out]; simp [*]), rfl⟩)
theorem fs_wordly (c : UInt8) (w : World) :
    Calls Tryd.prog 92 #[.int .u8 (c.toNat : Int)] w fun e w' => e = .returned (.bool (Fs.wordly c)) ∧ w = w' := by
  have h1 := byte_eq c 95 (by decide)
  have h2 := byte_eq c 46 (by decide)
  rw [show ((95 : Nat) : Int) = 95 from rfl] at h1
  rw [show ((46 : Nat) : Int) = 46 from rfl] at h2
  have HC := Lib.hid (show Fs.wordly c = ((Fs.corner c || ((c.toNat : Int) == 95)) || ((c.toNat : Int) == 46)) from by rw [h1, h2]; rfl)
  clear h1 h2
  go_enter Tryd.func92, Tryd.ntmps92
  go_wp2_with (go_at_call 90; refine (fs_corner _ _).mono ?_; rintro e w' ⟨rfl, rfl⟩)
  all_goals (go_ret; exact ⟨ret_bool (by rw [HC.out]; simp [*]), rfl⟩)
theorem run_step (p : UInt8 → Bool) (s : ByteArray) (k : Nat) (h : k < s.size) : Fs.run p (s.data.toList.drop k) = if p s[k] = true then Fs.run p (s.data.toList.drop (k + 1)) + 1 else 0 := by
  have hkl : k < s.data.toList.length := by simpa using h
  have hd : s.data.toList.drop k = s[k] :: s.data.toList.drop (k + 1) := List.drop_eq_getElem_cons hkl
  rw [hd, Fs.run, List.takeWhile_cons]
  split
  · rfl
  · rfl
set_option maxRecDepth 100000 in
theorem fs_run_corner (s : ByteArray) (w : World) (hs : s.size ≤ maxLen) :
    Calls Tryd.prog 63 #[.string s, .func (.func 90) #[] #[]] w fun e w' => e = .returned (.int .i64 (Fs.run Fs.corner s.data.toList)) ∧ w = w' := by
  unfold maxLen at hs
  go_enter Tryd.func63, Tryd.ntmps63
  go_wp2
  go_loop [5] (fun n => ∃ k : Nat, k ≤ s.size ∧ n = .int .i64 k ∧ Hid (Fs.run Fs.corner s.data.toList = k + Fs.run Fs.corner (s.data.toList.drop k))) (fun n => s.size - (intOf n).toNat)
  case atStart => exact ⟨0, Nat.zero_le _, rfl, Lib.hid (by simp)⟩
  case round =>
    obtain ⟨k, hk, rfl, hq⟩ := hrel
    by_cases hlt : k < s.size
    · have H1 := Lib.hid (run_step Fs.corner s k hlt)
      cases hp : Fs.corner s[k] with
      | true =>
        have HQ := Lib.hid (show Fs.run Fs.corner s.data.toList = (k + 1 : Nat) + Fs.run Fs.corner (s.data.toList.drop (k + 1)) from by rw [hq.out, H1.out, if_pos hp]; omega)
        clear hq
        have HP := Lib.hid (show ∀ W, Calls Tryd.prog 90 #[.int .u8 (s[k].toNat : Int)] W fun e w' => e = .returned (.bool true) ∧ W = w' from fun W => by rw [← hp]; exact fs_corner s[k] W)
        clear H1 hp
        go_wp2_with ((with_reducible refine (HP.out _).mono ?_); rintro e w' ⟨rfl, rfl⟩)
        go_round
        case rel => exact ⟨k + 1, by omega, by go_num, HQ⟩
        case measure => simp [intOf]; omega
      | false =>
        have HQ := Lib.hid (show Fs.run Fs.corner s.data.toList = k from by rw [hq.out, H1.out, hp, if_neg (by simp)]; omega)
        clear hq
        have HP := Lib.hid (show ∀ W, Calls Tryd.prog 90 #[.int .u8 (s[k].toNat : Int)] W fun e w' => e = .returned (.bool false) ∧ W = w' from fun W => by rw [← hp]; exact fs_corner s[k] W)
        clear H1 hp
        go_wp2_with ((with_reducible refine (HP.out _).mono ?_); rintro e w' ⟨rfl, rfl⟩)
        go_ret
        exact ⟨ret_int (by rw [HQ.out]), rfl⟩
    · go_wp2
      go_ret
      exact ⟨ret_int (by rw [hq.out, List.drop_eq_nil_of_le (by simp; omega)]; simp [Fs.run]), rfl⟩
set_option maxRecDepth 100000 in
theorem fs_run_wordly (s : ByteArray) (w : World) (hs : s.size ≤ maxLen) :
    Calls Tryd.prog 63 #[.string s, .func (.func 92) #[] #[]] w fun e w' => e = .returned (.int .i64 (Fs.run Fs.wordly s.data.toList)) ∧ w = w' := by
  unfold maxLen at hs
  go_enter Tryd.func63, Tryd.ntmps63
  go_wp2
  go_loop [5] (fun n => ∃ k : Nat, k ≤ s.size ∧ n = .int .i64 k ∧ Hid (Fs.run Fs.wordly s.data.toList = k + Fs.run Fs.wordly (s.data.toList.drop k))) (fun n => s.size - (intOf n).toNat)
  case atStart => exact ⟨0, Nat.zero_le _, rfl, Lib.hid (by simp)⟩
  case round =>
    obtain ⟨k, hk, rfl, hq⟩ := hrel
    by_cases hlt : k < s.size
    · have H1 := Lib.hid (run_step Fs.wordly s k hlt)
      cases hp : Fs.wordly s[k] with
      | true =>
        have HQ := Lib.hid (show Fs.run Fs.wordly s.data.toList = (k + 1 : Nat) + Fs.run Fs.wordly (s.data.toList.drop (k + 1)) from by rw [hq.out, H1.out, if_pos hp]; omega)
        clear hq
        have HP := Lib.hid (show ∀ W, Calls Tryd.prog 92 #[.int .u8 (s[k].toNat : Int)] W fun e w' => e = .returned (.bool true) ∧ W = w' from fun W => by rw [← hp]; exact fs_wordly s[k] W)
        clear H1 hp
        go_wp2_with ((with_reducible refine (HP.out _).mono ?_); rintro e w' ⟨rfl, rfl⟩)
        go_round
        case rel => exact ⟨k + 1, by omega, by go_num, HQ⟩
        case measure => simp [intOf]; omega
      | false =>
        have HQ := Lib.hid (show Fs.run Fs.wordly s.data.toList = k from by rw [hq.out, H1.out, hp, if_neg (by simp)]; omega)
        clear hq
        have HP := Lib.hid (show ∀ W, Calls Tryd.prog 92 #[.int .u8 (s[k].toNat : Int)] W fun e w' => e = .returned (.bool false) ∧ W = w' from fun W => by rw [← hp]; exact fs_wordly s[k] W)
        clear H1 hp
        go_wp2_with ((with_reducible refine (HP.out _).mono ?_); rintro e w' ⟨rfl, rfl⟩)
        go_ret
        exact ⟨ret_int (by rw [HQ.out]), rfl⟩
    · go_wp2
      go_ret
      exact ⟨ret_int (by rw [hq.out, List.drop_eq_nil_of_le (by simp; omega)]; simp [Fs.run]), rfl⟩
set_option maxRecDepth 100000 in
theorem fs_run_digit (s : ByteArray) (w : World) (hs : s.size ≤ maxLen) :
    Calls Tryd.prog 63 #[.string s, .func (.func 67) #[] #[]] w fun e w' => e = .returned (.int .i64 (Fs.run Cr.dgt s.data.toList)) ∧ w = w' := by
  unfold maxLen at hs
  go_enter Tryd.func63, Tryd.ntmps63
  go_wp2
  go_loop [5] (fun n => ∃ k : Nat, k ≤ s.size ∧ n = .int .i64 k ∧ Hid (Fs.run Cr.dgt s.data.toList = k + Fs.run Cr.dgt (s.data.toList.drop k))) (fun n => s.size - (intOf n).toNat)
  case atStart => exact ⟨0, Nat.zero_le _, rfl, Lib.hid (by simp)⟩
  case round =>
    obtain ⟨k, hk, rfl, hq⟩ := hrel
    by_cases hlt : k < s.size
    · have H1 := Lib.hid (run_step Cr.dgt s k hlt)
      cases hp : Cr.dgt s[k] with
      | true =>
        have HQ := Lib.hid (show Fs.run Cr.dgt s.data.toList = (k + 1 : Nat) + Fs.run Cr.dgt (s.data.toList.drop (k + 1)) from by rw [hq.out, H1.out, if_pos hp]; omega)
        clear hq
        have HP := Lib.hid (show ∀ W, Calls Tryd.prog 67 #[.int .u8 (s[k].toNat : Int)] W fun e w' => e = .returned (.bool true) ∧ W = w' from fun W => by rw [← hp]; exact fs_digit s[k] W)
        clear H1 hp
        go_wp2_with ((with_reducible refine (HP.out _).mono ?_); rintro e w' ⟨rfl, rfl⟩)
        go_round
        case rel => exact ⟨k + 1, by omega, by go_num, HQ⟩
        case measure => simp [intOf]; omega
      | false =>
        have HQ := Lib.hid (show Fs.run Cr.dgt s.data.toList = k from by rw [hq.out, H1.out, hp, if_neg (by simp)]; omega)
        clear hq
        have HP := Lib.hid (show ∀ W, Calls Tryd.prog 67 #[.int .u8 (s[k].toNat : Int)] W fun e w' => e = .returned (.bool false) ∧ W = w' from fun W => by rw [← hp]; exact fs_digit s[k] W)
        clear H1 hp
        go_wp2_with ((with_reducible refine (HP.out _).mono ?_); rintro e w' ⟨rfl, rfl⟩)
        go_ret
        exact ⟨ret_int (by rw [HQ.out]), rfl⟩
    · go_wp2
      go_ret
      exact ⟨ret_int (by rw [hq.out, List.drop_eq_nil_of_le (by simp; omega)]; simp [Fs.run]), rfl⟩
set_option maxRecDepth 100000 in
theorem fs_run_blank (s : ByteArray) (w : World) (hs : s.size ≤ maxLen) :
    Calls Tryd.prog 63 #[.string s, .func (.func 64) #[] #[]] w fun e w' => e = .returned (.int .i64 (Fs.run Fs.blank s.data.toList)) ∧ w = w' := by
  unfold maxLen at hs
  go_enter Tryd.func63, Tryd.ntmps63
  go_wp2
  go_loop [5] (fun n => ∃ k : Nat, k ≤ s.size ∧ n = .int .i64 k ∧ Hid (Fs.run Fs.blank s.data.toList = k + Fs.run Fs.blank (s.data.toList.drop k))) (fun n => s.size - (intOf n).toNat)
  case atStart => exact ⟨0, Nat.zero_le _, rfl, Lib.hid (by simp)⟩
  case round =>
    obtain ⟨k, hk, rfl, hq⟩ := hrel
    by_cases hlt : k < s.size
    · have H1 := Lib.hid (run_step Fs.blank s k hlt)
      cases hp : Fs.blank s[k] with
      | true =>
        have HQ := Lib.hid (show Fs.run Fs.blank s.data.toList = (k + 1 : Nat) + Fs.run Fs.blank (s.data.toList.drop (k + 1)) from by rw [hq.out, H1.out, if_pos hp]; omega)
        clear hq
        have HP := Lib.hid (show ∀ W, Calls Tryd.prog 64 #[.int .u8 (s[k].toNat : Int)] W fun e w' => e = .returned (.bool true) ∧ W = w' from fun W => by rw [← hp]; exact fs_blank s[k] W)
        clear H1 hp
        go_wp2_with ((with_reducible refine (HP.out _).mono ?_); rintro e w' ⟨rfl, rfl⟩)
        go_round
        case rel => exact ⟨k + 1, by omega, by go_num, HQ⟩
        case measure => simp [intOf]; omega
      | false =>
        have HQ := Lib.hid (show Fs.run Fs.blank s.data.toList = k from by rw [hq.out, H1.out, hp, if_neg (by simp)]; omega)
        clear hq
        have HP := Lib.hid (show ∀ W, Calls Tryd.prog 64 #[.int .u8 (s[k].toNat : Int)] W fun e w' => e = .returned (.bool false) ∧ W = w' from fun W => by rw [← hp]; exact fs_blank s[k] W)
        clear H1 hp
        go_wp2_with ((with_reducible refine (HP.out _).mono ?_); rintro e w' ⟨rfl, rfl⟩)
        go_ret
        exact ⟨ret_int (by rw [HQ.out]), rfl⟩
    · go_wp2
      go_ret
      exact ⟨ret_int (by rw [hq.out, List.drop_eq_nil_of_le (by simp; omega)]; simp [Fs.run]), rfl⟩
theorem fs_isRef (s : ByteArray) (w : World) (he : Env w) (hl : s.size ≤ 4000000000) :
    Calls Tryd.prog 91 #[.string s] w fun e w' => e = .returned (.bool (Fs.isRef s.data.toList)) ∧ Below w.heap.size w w' := by
  have HP := Lib.hid (parse_any s.data.toList w he (by simpa using hl))
  have HR := Lib.hid (show Fs.isRef s.data.toList = ((parseF s.data.toList).2 == 0) from by rw [Bool.eq_iff_iff]; simp [Fs.isRef])
  generalize parseF s.data.toList = F at *
  go_enter Tryd.func91, Tryd.ntmps91
  go_wp2_with (go_at_call 33; (with_reducible refine HP.out.mono ?_); rintro e w' ⟨rfl, hb⟩)
  go_ret
  exact ⟨ret_bool (by rw [HR.out]), hb.alloc hb.size _⟩
end Go.Proofs.YtjgojbkmeggmhaaDoor
