/- The contracts of fscan's quoted and brackets. -/
import Derived.Test.YtjgojbkmeggmhaaDoorFsC
namespace Go.Proofs.YtjgojbkmeggmhaaDoor
open Go.RowKit
namespace Fs
theorem bump_bump (j k n : Nat) : bump j (bump k n) = bump (k + j) n := by
  unfold bump
  by_cases h : n = 0
  · simp [h]
  · rw [if_neg h, if_neg (by omega), if_neg h]; omega
theorem bump_zero (k : Nat) : bump k 0 = 0 := by simp [bump]
theorem bump_one (k : Nat) : bump k 1 = k + 1 := by rw [bump, if_neg (by decide)]; omega
theorem quo_ne {m c : UInt8} (t : List UInt8) (h : c ≠ m) : quo m (c :: t) = bump 1 (quo m t) := by
  cases t with
  | nil => simp [quo, h, bump]
  | cons d t => rw [quo, if_neg h]
theorem quo_two {m : UInt8} (t : List UInt8) : quo m (m :: m :: t) = bump 2 (quo m t) := by rw [quo, if_pos rfl, if_pos rfl]
theorem quo_end {m : UInt8} (t : List UInt8) (h : t.head? ≠ some m) : quo m (m :: t) = 1 := by
  cases t with
  | nil => simp [quo]
  | cons d t => rw [quo, if_pos rfl, if_neg (fun e => h (by rw [e]; rfl))]
end Fs
theorem drop_at (s : ByteArray) (k : Nat) (h : k < s.size) : s.data.toList.drop k = s[k] :: s.data.toList.drop (k + 1) := by
  have hkl : k < s.data.toList.length := by simpa using h
  exact List.drop_eq_getElem_cons hkl
theorem drop_all (s : ByteArray) (k : Nat) (h : ¬ k < s.size) : s.data.toList.drop k = [] := List.drop_eq_nil_of_le (by simp; omega)

set_option maxRecDepth 100000 in
theorem fs_quoted34 (s : ByteArray) (w : World) (hs : s.size ≤ 4000000000) (h1 : 1 ≤ s.size) :
    Calls Tryd.prog 65 #[.string s, .int .u8 34] w fun e w' => e = .returned (.int .i64 (Fs.quoted s.data.toList 34)) ∧ w = w' := by
  go_enter Tryd.func65, Tryd.ntmps65
  go_wp2
  go_loop [5] (fun i => ∃ k : Nat, 1 ≤ k ∧ k ≤ s.size ∧ i = .int .i64 k ∧ Hid (Fs.quoted s.data.toList 34 = Fs.bump k (Fs.quo 34 (s.data.toList.drop k)))) (fun i => s.size - (intOf i).toNat)
  case atStart => exact ⟨1, Nat.le_refl _, h1, rfl, Lib.hid rfl⟩
  case round =>
    obtain ⟨k, hk1, hk, rfl, hq⟩ := hrel
    by_cases hlt : k < s.size
    · by_cases hm : s[k] = 34
      · have hb : ((s[k].toNat : Int) != 34) = false := byte_kn _ 34 (by decide) true (by rw [hm]; rfl)
        by_cases htwo : ∃ h : k + 1 < s.size, s[k + 1] = 34
        · obtain ⟨hl2, hm2⟩ := htwo
          have hb2 : ((s[k + 1].toNat : Int) == 34) = true := byte_k _ 34 (by decide) true (by rw [hm2]; rfl)
          have HQ := Lib.hid (show Fs.quoted s.data.toList 34 = Fs.bump (k + 2) (Fs.quo 34 (s.data.toList.drop (k + 2))) from by
            rw [hq.out, drop_at s k hlt, drop_at s (k + 1) hl2, hm, hm2, Fs.quo_two, Fs.bump_bump, Nat.add_comm 2 k])
          clear hq hm hm2
          go_wp2_with fail
          go_round
          case rel => exact ⟨k + 2, by omega, by omega, by go_num, HQ⟩
          case measure => simp [intOf]; omega
        · have HQ := Lib.hid (show Fs.quoted s.data.toList 34 = k + 1 from by
            rw [hq.out, drop_at s k hlt, hm, Fs.quo_end, Fs.bump_one]
            intro he
            by_cases hl2 : k + 1 < s.size
            · rw [drop_at s (k + 1) hl2] at he; exact htwo ⟨hl2, Option.some.inj he⟩
            · rw [drop_all s _ hl2] at he; cases he)
          by_cases hl2 : k + 1 < s.size
          · have hb2 : ((s[k + 1].toNat : Int) == 34) = false := byte_k _ 34 (by decide) false (by rw [beq_eq_false_iff_ne]; exact fun h => htwo ⟨hl2, h⟩)
            clear hq hm htwo
            go_wp2_with fail
            go_ret
            exact ⟨ret_int (by rw [HQ.out]; push_cast; rfl), rfl⟩
          · clear hq hm htwo
            go_wp2_with fail
            go_ret
            exact ⟨ret_int (by rw [HQ.out]; push_cast; rfl), rfl⟩
      · have hb : ((s[k].toNat : Int) != 34) = true := byte_kn _ 34 (by decide) false (by rw [beq_eq_false_iff_ne]; exact hm)
        have HQ := Lib.hid (show Fs.quoted s.data.toList 34 = Fs.bump (k + 1) (Fs.quo 34 (s.data.toList.drop (k + 1))) from by
          rw [hq.out, drop_at s k hlt, Fs.quo_ne _ hm, Fs.bump_bump, Nat.add_comm 1 k])
        clear hq hm
        go_wp2_with fail
        go_round
        case rel => exact ⟨k + 1, by omega, by omega, by go_num, HQ⟩
        case measure => simp [intOf]; omega
    · have HQ := Lib.hid (show Fs.quoted s.data.toList 34 = 0 from by rw [hq.out, drop_all s k hlt]; rfl)
      clear hq
      go_wp2_with fail
      go_ret
      exact ⟨ret_int (by rw [HQ.out]; rfl), rfl⟩
set_option maxRecDepth 100000 in
theorem fs_quoted39 (s : ByteArray) (w : World) (hs : s.size ≤ 4000000000) (h1 : 1 ≤ s.size) :
    Calls Tryd.prog 65 #[.string s, .int .u8 39] w fun e w' => e = .returned (.int .i64 (Fs.quoted s.data.toList 39)) ∧ w = w' := by
  go_enter Tryd.func65, Tryd.ntmps65
  go_wp2
  go_loop [5] (fun i => ∃ k : Nat, 1 ≤ k ∧ k ≤ s.size ∧ i = .int .i64 k ∧ Hid (Fs.quoted s.data.toList 39 = Fs.bump k (Fs.quo 39 (s.data.toList.drop k)))) (fun i => s.size - (intOf i).toNat)
  case atStart => exact ⟨1, Nat.le_refl _, h1, rfl, Lib.hid rfl⟩
  case round =>
    obtain ⟨k, hk1, hk, rfl, hq⟩ := hrel
    by_cases hlt : k < s.size
    · by_cases hm : s[k] = 39
      · have hb : ((s[k].toNat : Int) != 39) = false := byte_kn _ 39 (by decide) true (by rw [hm]; rfl)
        by_cases htwo : ∃ h : k + 1 < s.size, s[k + 1] = 39
        · obtain ⟨hl2, hm2⟩ := htwo
          have hb2 : ((s[k + 1].toNat : Int) == 39) = true := byte_k _ 39 (by decide) true (by rw [hm2]; rfl)
          have HQ := Lib.hid (show Fs.quoted s.data.toList 39 = Fs.bump (k + 2) (Fs.quo 39 (s.data.toList.drop (k + 2))) from by
            rw [hq.out, drop_at s k hlt, drop_at s (k + 1) hl2, hm, hm2, Fs.quo_two, Fs.bump_bump, Nat.add_comm 2 k])
          clear hq hm hm2
          go_wp2_with fail
          go_round
          case rel => exact ⟨k + 2, by omega, by omega, by go_num, HQ⟩
          case measure => simp [intOf]; omega
        · have HQ := Lib.hid (show Fs.quoted s.data.toList 39 = k + 1 from by
            rw [hq.out, drop_at s k hlt, hm, Fs.quo_end, Fs.bump_one]
            intro he
            by_cases hl2 : k + 1 < s.size
            · rw [drop_at s (k + 1) hl2] at he; exact htwo ⟨hl2, Option.some.inj he⟩
            · rw [drop_all s _ hl2] at he; cases he)
          by_cases hl2 : k + 1 < s.size
          · have hb2 : ((s[k + 1].toNat : Int) == 39) = false := byte_k _ 39 (by decide) false (by rw [beq_eq_false_iff_ne]; exact fun h => htwo ⟨hl2, h⟩)
            clear hq hm htwo
            go_wp2_with fail
            go_ret
            exact ⟨ret_int (by rw [HQ.out]; push_cast; rfl), rfl⟩
          · clear hq hm htwo
            go_wp2_with fail
            go_ret
            exact ⟨ret_int (by rw [HQ.out]; push_cast; rfl), rfl⟩
      · have hb : ((s[k].toNat : Int) != 39) = true := byte_kn _ 39 (by decide) false (by rw [beq_eq_false_iff_ne]; exact hm)
        have HQ := Lib.hid (show Fs.quoted s.data.toList 39 = Fs.bump (k + 1) (Fs.quo 39 (s.data.toList.drop (k + 1))) from by
          rw [hq.out, drop_at s k hlt, Fs.quo_ne _ hm, Fs.bump_bump, Nat.add_comm 1 k])
        clear hq hm
        go_wp2_with fail
        go_round
        case rel => exact ⟨k + 1, by omega, by omega, by go_num, HQ⟩
        case measure => simp [intOf]; omega
    · have HQ := Lib.hid (show Fs.quoted s.data.toList 39 = 0 from by rw [hq.out, drop_all s k hlt]; rfl)
      clear hq
      go_wp2_with fail
      go_ret
      exact ⟨ret_int (by rw [HQ.out]; rfl), rfl⟩
set_option maxRecDepth 100000 in
theorem fs_brackets (s : ByteArray) (w : World) (hs : s.size ≤ 4000000000) :
    Calls Tryd.prog 94 #[.string s] w fun e w' => e = .returned (.int .i64 (Fs.br 0 s.data.toList)) ∧ w = w' := by
  go_enter Tryd.func94, Tryd.ntmps94
  go_wp2
  go_loop [3, 7] (fun dv i => ∃ (k : Nat) (d : Int), k ≤ s.size ∧ i = .int .i64 k ∧ dv = .int .i64 d ∧ -(k : Int) ≤ d ∧ d ≤ k ∧ Hid (Fs.br 0 s.data.toList = Fs.bump k (Fs.br d (s.data.toList.drop k)))) (fun _ i => s.size - (intOf i).toNat)
  case atStart => exact ⟨0, 0, by omega, rfl, rfl, by omega, by omega, Lib.hid (by rw [Fs.bump]; split <;> simp_all)⟩
  case round =>
    obtain ⟨k, d, hk, rfl, rfl, hd1, hd2, hq⟩ := hrel
    by_cases hlt : k < s.size
    · by_cases h91 : s[k] = 91
      · have hb : ((s[k].toNat : Int) == 91) = true := byte_k _ 91 (by decide) true (by rw [h91]; rfl)
        have HB := Lib.hid (show Fs.deep d s[k] = d + 1 from by simp [Fs.deep, h91])
        by_cases h0 : d + 1 = 0
        · have hz : ((d + 1) == (0 : Int)) = true := by rw [beq_iff_eq]; exact h0
          have HQ := Lib.hid (show Fs.br 0 s.data.toList = k + 1 from by
            rw [hq.out, drop_at s k hlt, Fs.br, HB.out, if_pos h0, Fs.bump_one])
          clear hq h0 h91
          go_wp2_with fail
          go_ret
          exact ⟨ret_int (by rw [HQ.out]; push_cast; rfl), rfl⟩
        · have hz : ((d + 1) == (0 : Int)) = false := by rw [beq_eq_false_iff_ne]; exact h0
          have HQ := Lib.hid (show Fs.br 0 s.data.toList = Fs.bump (k + 1) (Fs.br (d + 1) (s.data.toList.drop (k + 1))) from by
            rw [hq.out, drop_at s k hlt, Fs.br, HB.out, if_neg h0, Fs.bump_bump, Nat.add_comm 1 k])
          clear hq h0 h91
          go_wp2_with fail
          go_round
          case rel => exact ⟨k + 1, d + 1, by omega, by go_num, rfl, by omega, by omega, HQ⟩
          case measure => simp [intOf]; omega
      · by_cases h93 : s[k] = 93
        · have hb : ((s[k].toNat : Int) == 91) = false := byte_k _ 91 (by decide) false (by rw [beq_eq_false_iff_ne]; exact h91)
          have hb2 : ((s[k].toNat : Int) == 93) = true := byte_k _ 93 (by decide) true (by rw [h93]; rfl)
          have HB := Lib.hid (show Fs.deep d s[k] = d - 1 from by simp [Fs.deep, h93])
          by_cases h0 : d - 1 = 0
          · have hz : ((d - 1) == (0 : Int)) = true := by rw [beq_iff_eq]; exact h0
            have HQ := Lib.hid (show Fs.br 0 s.data.toList = k + 1 from by
              rw [hq.out, drop_at s k hlt, Fs.br, HB.out, if_pos h0, Fs.bump_one])
            clear hq h0 h91 h93
            go_wp2_with fail
            go_ret
            exact ⟨ret_int (by rw [HQ.out]; push_cast; rfl), rfl⟩
          · have hz : ((d - 1) == (0 : Int)) = false := by rw [beq_eq_false_iff_ne]; exact h0
            have HQ := Lib.hid (show Fs.br 0 s.data.toList = Fs.bump (k + 1) (Fs.br (d - 1) (s.data.toList.drop (k + 1))) from by
              rw [hq.out, drop_at s k hlt, Fs.br, HB.out, if_neg h0, Fs.bump_bump, Nat.add_comm 1 k])
            clear hq h0 h91 h93
            go_wp2_with fail
            go_round
            case rel => exact ⟨k + 1, d - 1, by omega, by go_num, rfl, by omega, by omega, HQ⟩
            case measure => simp [intOf]; omega
        · have hb : ((s[k].toNat : Int) == 91) = false := byte_k _ 91 (by decide) false (by rw [beq_eq_false_iff_ne]; exact h91)
          have hb2 : ((s[k].toNat : Int) == 93) = false := byte_k _ 93 (by decide) false (by rw [beq_eq_false_iff_ne]; exact h93)
          have HB := Lib.hid (show Fs.deep d s[k] = d from by simp [Fs.deep, h91, h93])
          by_cases h0 : d = 0
          · have hz : ((d) == (0 : Int)) = true := by rw [beq_iff_eq]; exact h0
            have HQ := Lib.hid (show Fs.br 0 s.data.toList = k + 1 from by
              rw [hq.out, drop_at s k hlt, Fs.br, HB.out, if_pos h0, Fs.bump_one])
            clear hq h0 h91 h93
            go_wp2_with fail
            go_ret
            exact ⟨ret_int (by rw [HQ.out]; push_cast; rfl), rfl⟩
          · have hz : ((d) == (0 : Int)) = false := by rw [beq_eq_false_iff_ne]; exact h0
            have HQ := Lib.hid (show Fs.br 0 s.data.toList = Fs.bump (k + 1) (Fs.br (d) (s.data.toList.drop (k + 1))) from by
              rw [hq.out, drop_at s k hlt, Fs.br, HB.out, if_neg h0, Fs.bump_bump, Nat.add_comm 1 k])
            clear hq h0 h91 h93
            go_wp2_with fail
            go_round
            case rel => exact ⟨k + 1, d, by omega, by go_num, rfl, by omega, by omega, HQ⟩
            case measure => simp [intOf]; omega
    · have HQ := Lib.hid (show Fs.br 0 s.data.toList = 0 from by rw [hq.out, drop_all s k hlt]; rfl)
      clear hq
      go_wp2_with fail
      go_ret
      exact ⟨ret_int (by rw [HQ.out]; rfl), rfl⟩
end Go.Proofs.YtjgojbkmeggmhaaDoor
