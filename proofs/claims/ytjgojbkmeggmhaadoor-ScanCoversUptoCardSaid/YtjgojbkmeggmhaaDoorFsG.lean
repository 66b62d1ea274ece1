/- The contract of fscan's next. -/
import Derived.Test.YtjgojbkmeggmhaaDoorFsF
namespace Go.Proofs.YtjgojbkmeggmhaaDoor
open Go.RowKit

theorem pre_any (s : ByteArray) (p : List UInt8) (W : World) :
    Calls Tryd.prog 27 #[.string s, .string ⟨p.toArray⟩] W fun e w' => e = .returned (.bool (Lib.hasPrefix s.data.toList p)) ∧ W = w' := by
  have h := Tryd.strings_HasPrefix s ⟨p.toArray⟩ W
  rw [show (⟨p.toArray⟩ : ByteArray).data.toList = p from rfl] at h
  exact h.mono fun e w' ⟨h1, h2⟩ => ⟨h1, h2.symm⟩
theorem ops_any (c : UInt8) (W : World) :
    Calls Tryd.prog 72 #[.string ⟨#[43, 45, 42, 47, 94, 38, 61, 60, 62, 37, 40, 41, 44, 59, 123, 125]⟩, .int .u8 (c.toNat : Int)] W fun e w' => e = .returned (.int .i64 (Lib.indexByte Fs.ops c)) ∧ W = w' := by
  have h := Tryd.strings_IndexByte ⟨#[43, 45, 42, 47, 94, 38, 61, 60, 62, 37, 40, 41, 44, 59, 123, 125]⟩ (c.toNat : Int) W
  rw [show ((c.toNat : Int).toNat.toUInt8) = c from by simp] at h
  exact h.mono fun e w' ⟨h1, h2⟩ => ⟨h1, h2.symm⟩
theorem ops1_eq (c : UInt8) : Fs.ops1 c = decide (0 ≤ Lib.indexByte Fs.ops c) := Lib.contains_iff_indexByte _ _
theorem fault_drop (l : List UInt8) (fs : List (List UInt8)) (k : Nat) (h : k < fs.length) : Fs.fault l (fs.drop k) = if Lib.hasPrefix l fs[k] = true then fs[k].length else Fs.fault l (fs.drop (k + 1)) := by
  rw [List.drop_eq_getElem_cons h, Fs.fault]

/-- What next answers, the first byte known. -/
def NextRet (l : List UInt8) (w : World) (e : Ending) (w' : World) : Prop :=
  e = .returned (.tuple #[.int .i64 (Fs.next l).1, .int .i64 (Fs.next l).2]) ∧ Below w.heap.size w w'
theorem next_of {s : ByteArray} (h0 : 0 < s.size) : Fs.next s.data.toList = Fs.next1 s[0] s.data.toList := by
  have := drop_at s 0 h0
  rw [List.drop_zero] at this
  rw [Fs.next, this]
  rfl

set_option maxRecDepth 100000 in
set_option maxHeartbeats 8000000 in
theorem next_blank (s : ByteArray) (w : World) (_he : Env w) (hs : s.size ≤ 4000000000) (h0 : 0 < s.size) (hc : Fs.blank s[0] = true) :
    Calls Tryd.prog 32 #[.string s] w (NextRet s.data.toList w) := by
  have hN := next_of h0
  rw [Fs.next1, if_pos hc] at hN
  have HN := Lib.hid hN
  have HR := Lib.hid fun W => fs_run_blank s W (by unfold maxLen; omega)
  have hc2 : s[0] = 32 ∨ s[0] = 9 := by simpa [Fs.blank] using hc
  clear hN hc
  generalize Fs.run Fs.blank s.data.toList = n at *
  rcases hc2 with hc | hc
  · have hb32 : ((s[0].toNat : Int) == 32) = true := byte_k _ 32 (by decide) true (by rw [hc]; rfl)
    clear hc
    go_enter Tryd.func32, Tryd.ntmps32
    go_wp2_with (go_at_call 63; (with_reducible refine (HR.out _).mono ?_); rintro e w' ⟨rfl, rfl⟩)
    go_ret2
    exact ⟨ret_pair (by rw [HN.out] <;> rfl) (by rw [HN.out] <;> rfl), Below.refl _ _⟩
  · have hb9 : ((s[0].toNat : Int) == 9) = true := byte_k _ 9 (by decide) true (by rw [hc]; rfl)
    have hb32 : ((s[0].toNat : Int) == 32) = false := byte_k _ 32 (by decide) false (by rw [hc]; rfl)
    clear hc
    go_enter Tryd.func32, Tryd.ntmps32
    go_wp2_with (go_at_call 63; (with_reducible refine (HR.out _).mono ?_); rintro e w' ⟨rfl, rfl⟩)
    go_ret2
    exact ⟨ret_pair (by rw [HN.out] <;> rfl) (by rw [HN.out] <;> rfl), Below.refl _ _⟩

set_option maxRecDepth 100000 in
set_option maxHeartbeats 8000000 in
theorem next_text (s : ByteArray) (w : World) (_he : Env w) (hs : s.size ≤ 4000000000) (h0 : 0 < s.size) (hc : s[0] = 34) :
    Calls Tryd.prog 32 #[.string s] w (NextRet s.data.toList w) := by
  have hN := next_of h0
  rw [Fs.next1, hc, if_neg (by decide), if_pos rfl] at hN
  have HN := Lib.hid hN
  have HR := Lib.hid (show ∀ W, Calls Tryd.prog 65 #[.string s, .int .u8 (s[0].toNat : Int)] W fun e w' => e = .returned (.int .i64 (Fs.quoted s.data.toList 34)) ∧ W = w' from fun W => by rw [hc]; exact fs_quoted34 s W hs h0)
  clear hN
  generalize Fs.quoted s.data.toList 34 = n at *
  have hb34 : ((s[0].toNat : Int) == 34) = true := byte_k _ 34 (by decide) true (by rw [hc]; rfl)
  have hb32 : ((s[0].toNat : Int) == 32) = false := byte_k _ 32 (by decide) false (by rw [hc]; rfl)
  have hb9 : ((s[0].toNat : Int) == 9) = false := byte_k _ 9 (by decide) false (by rw [hc]; rfl)
  clear hc
  go_enter Tryd.func32, Tryd.ntmps32
  go_wp2_with (go_at_call 65; (with_reducible refine (HR.out _).mono ?_); rintro e w' ⟨rfl, rfl⟩)
  go_ret2
  exact ⟨ret_pair (by rw [HN.out] <;> rfl) (by rw [HN.out] <;> rfl), Below.refl _ _⟩

set_option maxRecDepth 100000 in
set_option maxHeartbeats 8000000 in
theorem next_quote (s : ByteArray) (w : World) (he : Env w) (hs : s.size ≤ 4000000000) (h0 : 0 < s.size) (hc : s[0] = 39) :
    Calls Tryd.prog 32 #[.string s] w (NextRet s.data.toList w) := by
  have hN := next_of h0
  rw [Fs.next1, hc, if_neg (by decide), if_neg (by decide), if_neg (by decide), if_pos rfl] at hN
  have HR := Lib.hid (show ∀ W, Calls Tryd.prog 65 #[.string s, .int .u8 (s[0].toNat : Int)] W fun e w' => e = .returned (.int .i64 (Fs.quoted s.data.toList 39)) ∧ W = w' from fun W => by rw [hc]; exact fs_quoted39 s W hs h0)
  have hql : 0 < Fs.quoted s.data.toList 39 → Fs.quoted s.data.toList 39 ≤ s.size := fun h => by
    have := (Fs.quoted_alone h).2.1
    simpa using this
  have HS := Lib.hid fun (h : Fs.quoted s.data.toList 39 ≤ s.size) => fs_sheeted s (Fs.quoted s.data.toList 39) _ rfl w he hs h
  clear he
  generalize Fs.quoted s.data.toList 39 = n at *
  generalize Fs.sheeted s.data.toList n = S at *
  have hb39 : ((s[0].toNat : Int) == 39) = true := byte_k _ 39 (by decide) true (by rw [hc]; rfl)
  have hb32 : ((s[0].toNat : Int) == 32) = false := byte_k _ 32 (by decide) false (by rw [hc]; rfl)
  have hb9 : ((s[0].toNat : Int) == 9) = false := byte_k _ 9 (by decide) false (by rw [hc]; rfl)
  have hb34 : ((s[0].toNat : Int) == 34) = false := byte_k _ 34 (by decide) false (by rw [hc]; rfl)
  have hb35 : ((s[0].toNat : Int) == 35) = false := byte_k _ 35 (by decide) false (by rw [hc]; rfl)
  clear hc
  by_cases hz : n = 0
  · rw [if_pos hz] at hN
    have HN := Lib.hid hN
    subst hz
    clear hN hql
    go_enter Tryd.func32, Tryd.ntmps32
    go_wp2_with (go_at_call 65; (with_reducible refine (HR.out _).mono ?_); rintro e w' ⟨rfl, rfl⟩)
    go_ret2
    exact ⟨ret_pair (by rw [HN.out] <;> rfl) (by rw [HN.out] <;> rfl), Below.refl _ _⟩
  · rw [if_neg hz] at hN
    have HN := Lib.hid hN
    have hp : 0 < n := by omega
    have HS2 := Lib.hid (HS.out (hql hp))
    clear hN hql hz HS
    go_enter Tryd.func32, Tryd.ntmps32
    go_wp2_with (first
      | (go_at_call 65; (with_reducible refine (HR.out _).mono ?_); rintro e w' ⟨rfl, rfl⟩)
      | (go_at_call 66; (with_reducible refine HS2.out.mono ?_); rintro e w' ⟨rfl, hbb⟩; have HB := Lib.hid hbb; clear hbb))
    go_ret2
    exact ⟨ret_pair (by rw [HN.out] <;> rfl) (by rw [HN.out] <;> rfl), HB.out⟩

set_option maxRecDepth 100000 in
set_option maxHeartbeats 8000000 in
theorem next_hash (s : ByteArray) (w : World) (_he : Env w) (_hs : s.size ≤ 4000000000) (h0 : 0 < s.size) (hc : s[0] = 35) :
    Calls Tryd.prog 32 #[.string s] w (NextRet s.data.toList w) := by
  have hN := next_of h0
  rw [Fs.next1, hc, if_neg (by decide), if_neg (by decide), if_pos rfl] at hN
  have HP := Lib.hid fun p W => pre_any s p W
  have hb35 : ((s[0].toNat : Int) == 35) = true := byte_k _ 35 (by decide) true (by rw [hc]; rfl)
  have hb32 : ((s[0].toNat : Int) == 32) = false := byte_k _ 32 (by decide) false (by rw [hc]; rfl)
  have hb9 : ((s[0].toNat : Int) == 9) = false := byte_k _ 9 (by decide) false (by rw [hc]; rfl)
  have hb34 : ((s[0].toNat : Int) == 34) = false := byte_k _ 34 (by decide) false (by rw [hc]; rfl)
  clear hc
  by_cases hr : Lib.hasPrefix s.data.toList [35, 82, 69, 70, 33] = true
  · rw [if_pos hr] at hN
    have HN := Lib.hid hN
    have HR := Lib.hid (show ∀ W, Calls Tryd.prog 27 #[.string s, .string ⟨#[35, 82, 69, 70, 33]⟩] W fun e w' => e = .returned (.bool true) ∧ W = w' from fun W => by rw [← hr]; exact HP.out [35, 82, 69, 70, 33] W)
    clear hN hr HP
    go_enter Tryd.func32, Tryd.ntmps32
    go_wp2_with (go_at_call 27; (with_reducible refine (HR.out _).mono ?_); rintro e w' ⟨rfl, rfl⟩)
    go_ret2
    exact ⟨ret_pair (by rw [HN.out] <;> rfl) (by rw [HN.out] <;> rfl), Below.refl _ _⟩
  · rw [if_neg hr] at hN
    have HN := Lib.hid hN
    have HR := Lib.hid (show ∀ W, Calls Tryd.prog 27 #[.string s, .string ⟨#[35, 82, 69, 70, 33]⟩] W fun e w' => e = .returned (.bool false) ∧ W = w' from fun W => by rw [← Bool.not_eq_true _ |>.mp hr]; exact HP.out [35, 82, 69, 70, 33] W)
    clear hN hr
    have i0 : ∀ W, (Instr.index 133 (.agg #[.string ⟨#[35, 68, 73, 86, 47, 48, 33]⟩, .string ⟨#[35, 86, 65, 76, 85, 69, 33]⟩, .string ⟨#[35, 78, 65, 77, 69, 63]⟩, .string ⟨#[35, 78, 85, 77, 33]⟩, .string ⟨#[35, 78, 47, 65]⟩, .string ⟨#[35, 83, 80, 73, 76, 76, 33]⟩, .string ⟨#[35, 67, 89, 67, 76, 69, 33]⟩]) (.int .i64 0)).run Tryd.prog W = .ok (.string ⟨#[35, 68, 73, 86, 47, 48, 33]⟩) W := fun _ => by kernel_rfl
    have i1 : ∀ W, (Instr.index 133 (.agg #[.string ⟨#[35, 68, 73, 86, 47, 48, 33]⟩, .string ⟨#[35, 86, 65, 76, 85, 69, 33]⟩, .string ⟨#[35, 78, 65, 77, 69, 63]⟩, .string ⟨#[35, 78, 85, 77, 33]⟩, .string ⟨#[35, 78, 47, 65]⟩, .string ⟨#[35, 83, 80, 73, 76, 76, 33]⟩, .string ⟨#[35, 67, 89, 67, 76, 69, 33]⟩]) (.int .i64 1)).run Tryd.prog W = .ok (.string ⟨#[35, 86, 65, 76, 85, 69, 33]⟩) W := fun _ => by kernel_rfl
    have i2 : ∀ W, (Instr.index 133 (.agg #[.string ⟨#[35, 68, 73, 86, 47, 48, 33]⟩, .string ⟨#[35, 86, 65, 76, 85, 69, 33]⟩, .string ⟨#[35, 78, 65, 77, 69, 63]⟩, .string ⟨#[35, 78, 85, 77, 33]⟩, .string ⟨#[35, 78, 47, 65]⟩, .string ⟨#[35, 83, 80, 73, 76, 76, 33]⟩, .string ⟨#[35, 67, 89, 67, 76, 69, 33]⟩]) (.int .i64 2)).run Tryd.prog W = .ok (.string ⟨#[35, 78, 65, 77, 69, 63]⟩) W := fun _ => by kernel_rfl
    have i3 : ∀ W, (Instr.index 133 (.agg #[.string ⟨#[35, 68, 73, 86, 47, 48, 33]⟩, .string ⟨#[35, 86, 65, 76, 85, 69, 33]⟩, .string ⟨#[35, 78, 65, 77, 69, 63]⟩, .string ⟨#[35, 78, 85, 77, 33]⟩, .string ⟨#[35, 78, 47, 65]⟩, .string ⟨#[35, 83, 80, 73, 76, 76, 33]⟩, .string ⟨#[35, 67, 89, 67, 76, 69, 33]⟩]) (.int .i64 3)).run Tryd.prog W = .ok (.string ⟨#[35, 78, 85, 77, 33]⟩) W := fun _ => by kernel_rfl
    have i4 : ∀ W, (Instr.index 133 (.agg #[.string ⟨#[35, 68, 73, 86, 47, 48, 33]⟩, .string ⟨#[35, 86, 65, 76, 85, 69, 33]⟩, .string ⟨#[35, 78, 65, 77, 69, 63]⟩, .string ⟨#[35, 78, 85, 77, 33]⟩, .string ⟨#[35, 78, 47, 65]⟩, .string ⟨#[35, 83, 80, 73, 76, 76, 33]⟩, .string ⟨#[35, 67, 89, 67, 76, 69, 33]⟩]) (.int .i64 4)).run Tryd.prog W = .ok (.string ⟨#[35, 78, 47, 65]⟩) W := fun _ => by kernel_rfl
    have i5 : ∀ W, (Instr.index 133 (.agg #[.string ⟨#[35, 68, 73, 86, 47, 48, 33]⟩, .string ⟨#[35, 86, 65, 76, 85, 69, 33]⟩, .string ⟨#[35, 78, 65, 77, 69, 63]⟩, .string ⟨#[35, 78, 85, 77, 33]⟩, .string ⟨#[35, 78, 47, 65]⟩, .string ⟨#[35, 83, 80, 73, 76, 76, 33]⟩, .string ⟨#[35, 67, 89, 67, 76, 69, 33]⟩]) (.int .i64 5)).run Tryd.prog W = .ok (.string ⟨#[35, 83, 80, 73, 76, 76, 33]⟩) W := fun _ => by kernel_rfl
    have i6 : ∀ W, (Instr.index 133 (.agg #[.string ⟨#[35, 68, 73, 86, 47, 48, 33]⟩, .string ⟨#[35, 86, 65, 76, 85, 69, 33]⟩, .string ⟨#[35, 78, 65, 77, 69, 63]⟩, .string ⟨#[35, 78, 85, 77, 33]⟩, .string ⟨#[35, 78, 47, 65]⟩, .string ⟨#[35, 83, 80, 73, 76, 76, 33]⟩, .string ⟨#[35, 67, 89, 67, 76, 69, 33]⟩]) (.int .i64 6)).run Tryd.prog W = .ok (.string ⟨#[35, 67, 89, 67, 76, 69, 33]⟩) W := fun _ => by kernel_rfl
    go_enter Tryd.func32, Tryd.ntmps32
    go_wp2_with (go_at_call 27; (with_reducible refine (HR.out _).mono ?_); rintro e w' ⟨rfl, rfl⟩)
    go_loop [32] (fun i => ∃ k : Nat, k ≤ 7 ∧ i = .int .i64 k ∧ Hid (Fs.fault s.data.toList Fs.faults = Fs.fault s.data.toList (Fs.faults.drop k))) (fun i => 7 - (intOf i).toNat)
    case atStart => exact ⟨0, by omega, rfl, Lib.hid rfl⟩
    case round =>
      obtain ⟨k, hk, rfl, hq⟩ := hrel
      have hkk : k = 0 ∨ k = 1 ∨ k = 2 ∨ k = 3 ∨ k = 4 ∨ k = 5 ∨ k = 6 ∨ k = 7 := by omega
      rcases hkk with rfl | rfl | rfl | rfl | rfl | rfl | rfl | rfl
      · have hd := fault_drop s.data.toList Fs.faults 0 (by decide)
        rw [show Fs.faults[0] = [35, 68, 73, 86, 47, 48, 33] from rfl] at hd
        by_cases hp : Lib.hasPrefix s.data.toList [35, 68, 73, 86, 47, 48, 33] = true
        · rw [if_pos hp] at hd
          have HQ := Lib.hid (show Fs.next s.data.toList = (3, 7) from by rw [HN.out, hq.out, hd]; rfl)
          have HX := Lib.hid (show ∀ W, Calls Tryd.prog 27 #[.string s, .string ⟨#[35, 68, 73, 86, 47, 48, 33]⟩] W fun e w' => e = .returned (.bool true) ∧ W = w' from fun W => by rw [← hp]; exact HP.out [35, 68, 73, 86, 47, 48, 33] W)
          clear hd hq hp
          go_wp2_with (go_at_call 27; (with_reducible refine (HX.out _).mono ?_); rintro e w' ⟨rfl, rfl⟩)
          go_ret2
          exact ⟨ret_pair (by rw [HQ.out] <;> rfl) (by rw [HQ.out] <;> rfl), Below.refl _ _⟩
        · rw [if_neg hp] at hd
          have HQ := Lib.hid (hq.out.trans hd)
          have HX := Lib.hid (show ∀ W, Calls Tryd.prog 27 #[.string s, .string ⟨#[35, 68, 73, 86, 47, 48, 33]⟩] W fun e w' => e = .returned (.bool false) ∧ W = w' from fun W => by rw [← Bool.not_eq_true _ |>.mp hp]; exact HP.out [35, 68, 73, 86, 47, 48, 33] W)
          clear hd hq hp
          go_wp2_with (go_at_call 27; (with_reducible refine (HX.out _).mono ?_); rintro e w' ⟨rfl, rfl⟩)
          go_round
          case rel => exact ⟨1, by omega, by go_num, HQ⟩
          case measure => simp [intOf]
      · have hd := fault_drop s.data.toList Fs.faults 1 (by decide)
        rw [show Fs.faults[1] = [35, 86, 65, 76, 85, 69, 33] from rfl] at hd
        by_cases hp : Lib.hasPrefix s.data.toList [35, 86, 65, 76, 85, 69, 33] = true
        · rw [if_pos hp] at hd
          have HQ := Lib.hid (show Fs.next s.data.toList = (3, 7) from by rw [HN.out, hq.out, hd]; rfl)
          have HX := Lib.hid (show ∀ W, Calls Tryd.prog 27 #[.string s, .string ⟨#[35, 86, 65, 76, 85, 69, 33]⟩] W fun e w' => e = .returned (.bool true) ∧ W = w' from fun W => by rw [← hp]; exact HP.out [35, 86, 65, 76, 85, 69, 33] W)
          clear hd hq hp
          go_wp2_with (go_at_call 27; (with_reducible refine (HX.out _).mono ?_); rintro e w' ⟨rfl, rfl⟩)
          go_ret2
          exact ⟨ret_pair (by rw [HQ.out] <;> rfl) (by rw [HQ.out] <;> rfl), Below.refl _ _⟩
        · rw [if_neg hp] at hd
          have HQ := Lib.hid (hq.out.trans hd)
          have HX := Lib.hid (show ∀ W, Calls Tryd.prog 27 #[.string s, .string ⟨#[35, 86, 65, 76, 85, 69, 33]⟩] W fun e w' => e = .returned (.bool false) ∧ W = w' from fun W => by rw [← Bool.not_eq_true _ |>.mp hp]; exact HP.out [35, 86, 65, 76, 85, 69, 33] W)
          clear hd hq hp
          go_wp2_with (go_at_call 27; (with_reducible refine (HX.out _).mono ?_); rintro e w' ⟨rfl, rfl⟩)
          go_round
          case rel => exact ⟨2, by omega, by go_num, HQ⟩
          case measure => simp [intOf]
      · have hd := fault_drop s.data.toList Fs.faults 2 (by decide)
        rw [show Fs.faults[2] = [35, 78, 65, 77, 69, 63] from rfl] at hd
        by_cases hp : Lib.hasPrefix s.data.toList [35, 78, 65, 77, 69, 63] = true
        · rw [if_pos hp] at hd
          have HQ := Lib.hid (show Fs.next s.data.toList = (3, 6) from by rw [HN.out, hq.out, hd]; rfl)
          have HX := Lib.hid (show ∀ W, Calls Tryd.prog 27 #[.string s, .string ⟨#[35, 78, 65, 77, 69, 63]⟩] W fun e w' => e = .returned (.bool true) ∧ W = w' from fun W => by rw [← hp]; exact HP.out [35, 78, 65, 77, 69, 63] W)
          clear hd hq hp
          go_wp2_with (go_at_call 27; (with_reducible refine (HX.out _).mono ?_); rintro e w' ⟨rfl, rfl⟩)
          go_ret2
          exact ⟨ret_pair (by rw [HQ.out] <;> rfl) (by rw [HQ.out] <;> rfl), Below.refl _ _⟩
        · rw [if_neg hp] at hd
          have HQ := Lib.hid (hq.out.trans hd)
          have HX := Lib.hid (show ∀ W, Calls Tryd.prog 27 #[.string s, .string ⟨#[35, 78, 65, 77, 69, 63]⟩] W fun e w' => e = .returned (.bool false) ∧ W = w' from fun W => by rw [← Bool.not_eq_true _ |>.mp hp]; exact HP.out [35, 78, 65, 77, 69, 63] W)
          clear hd hq hp
          go_wp2_with (go_at_call 27; (with_reducible refine (HX.out _).mono ?_); rintro e w' ⟨rfl, rfl⟩)
          go_round
          case rel => exact ⟨3, by omega, by go_num, HQ⟩
          case measure => simp [intOf]
      · have hd := fault_drop s.data.toList Fs.faults 3 (by decide)
        rw [show Fs.faults[3] = [35, 78, 85, 77, 33] from rfl] at hd
        by_cases hp : Lib.hasPrefix s.data.toList [35, 78, 85, 77, 33] = true
        · rw [if_pos hp] at hd
          have HQ := Lib.hid (show Fs.next s.data.toList = (3, 5) from by rw [HN.out, hq.out, hd]; rfl)
          have HX := Lib.hid (show ∀ W, Calls Tryd.prog 27 #[.string s, .string ⟨#[35, 78, 85, 77, 33]⟩] W fun e w' => e = .returned (.bool true) ∧ W = w' from fun W => by rw [← hp]; exact HP.out [35, 78, 85, 77, 33] W)
          clear hd hq hp
          go_wp2_with (go_at_call 27; (with_reducible refine (HX.out _).mono ?_); rintro e w' ⟨rfl, rfl⟩)
          go_ret2
          exact ⟨ret_pair (by rw [HQ.out] <;> rfl) (by rw [HQ.out] <;> rfl), Below.refl _ _⟩
        · rw [if_neg hp] at hd
          have HQ := Lib.hid (hq.out.trans hd)
          have HX := Lib.hid (show ∀ W, Calls Tryd.prog 27 #[.string s, .string ⟨#[35, 78, 85, 77, 33]⟩] W fun e w' => e = .returned (.bool false) ∧ W = w' from fun W => by rw [← Bool.not_eq_true _ |>.mp hp]; exact HP.out [35, 78, 85, 77, 33] W)
          clear hd hq hp
          go_wp2_with (go_at_call 27; (with_reducible refine (HX.out _).mono ?_); rintro e w' ⟨rfl, rfl⟩)
          go_round
          case rel => exact ⟨4, by omega, by go_num, HQ⟩
          case measure => simp [intOf]
      · have hd := fault_drop s.data.toList Fs.faults 4 (by decide)
        rw [show Fs.faults[4] = [35, 78, 47, 65] from rfl] at hd
        by_cases hp : Lib.hasPrefix s.data.toList [35, 78, 47, 65] = true
        · rw [if_pos hp] at hd
          have HQ := Lib.hid (show Fs.next s.data.toList = (3, 4) from by rw [HN.out, hq.out, hd]; rfl)
          have HX := Lib.hid (show ∀ W, Calls Tryd.prog 27 #[.string s, .string ⟨#[35, 78, 47, 65]⟩] W fun e w' => e = .returned (.bool true) ∧ W = w' from fun W => by rw [← hp]; exact HP.out [35, 78, 47, 65] W)
          clear hd hq hp
          go_wp2_with (go_at_call 27; (with_reducible refine (HX.out _).mono ?_); rintro e w' ⟨rfl, rfl⟩)
          go_ret2
          exact ⟨ret_pair (by rw [HQ.out] <;> rfl) (by rw [HQ.out] <;> rfl), Below.refl _ _⟩
        · rw [if_neg hp] at hd
          have HQ := Lib.hid (hq.out.trans hd)
          have HX := Lib.hid (show ∀ W, Calls Tryd.prog 27 #[.string s, .string ⟨#[35, 78, 47, 65]⟩] W fun e w' => e = .returned (.bool false) ∧ W = w' from fun W => by rw [← Bool.not_eq_true _ |>.mp hp]; exact HP.out [35, 78, 47, 65] W)
          clear hd hq hp
          go_wp2_with (go_at_call 27; (with_reducible refine (HX.out _).mono ?_); rintro e w' ⟨rfl, rfl⟩)
          go_round
          case rel => exact ⟨5, by omega, by go_num, HQ⟩
          case measure => simp [intOf]
      · have hd := fault_drop s.data.toList Fs.faults 5 (by decide)
        rw [show Fs.faults[5] = [35, 83, 80, 73, 76, 76, 33] from rfl] at hd
        by_cases hp : Lib.hasPrefix s.data.toList [35, 83, 80, 73, 76, 76, 33] = true
        · rw [if_pos hp] at hd
          have HQ := Lib.hid (show Fs.next s.data.toList = (3, 7) from by rw [HN.out, hq.out, hd]; rfl)
          have HX := Lib.hid (show ∀ W, Calls Tryd.prog 27 #[.string s, .string ⟨#[35, 83, 80, 73, 76, 76, 33]⟩] W fun e w' => e = .returned (.bool true) ∧ W = w' from fun W => by rw [← hp]; exact HP.out [35, 83, 80, 73, 76, 76, 33] W)
          clear hd hq hp
          go_wp2_with (go_at_call 27; (with_reducible refine (HX.out _).mono ?_); rintro e w' ⟨rfl, rfl⟩)
          go_ret2
          exact ⟨ret_pair (by rw [HQ.out] <;> rfl) (by rw [HQ.out] <;> rfl), Below.refl _ _⟩
        · rw [if_neg hp] at hd
          have HQ := Lib.hid (hq.out.trans hd)
          have HX := Lib.hid (show ∀ W, Calls Tryd.prog 27 #[.string s, .string ⟨#[35, 83, 80, 73, 76, 76, 33]⟩] W fun e w' => e = .returned (.bool false) ∧ W = w' from fun W => by rw [← Bool.not_eq_true _ |>.mp hp]; exact HP.out [35, 83, 80, 73, 76, 76, 33] W)
          clear hd hq hp
          go_wp2_with (go_at_call 27; (with_reducible refine (HX.out _).mono ?_); rintro e w' ⟨rfl, rfl⟩)
          go_round
          case rel => exact ⟨6, by omega, by go_num, HQ⟩
          case measure => simp [intOf]
      · have hd := fault_drop s.data.toList Fs.faults 6 (by decide)
        rw [show Fs.faults[6] = [35, 67, 89, 67, 76, 69, 33] from rfl] at hd
        by_cases hp : Lib.hasPrefix s.data.toList [35, 67, 89, 67, 76, 69, 33] = true
        · rw [if_pos hp] at hd
          have HQ := Lib.hid (show Fs.next s.data.toList = (3, 7) from by rw [HN.out, hq.out, hd]; rfl)
          have HX := Lib.hid (show ∀ W, Calls Tryd.prog 27 #[.string s, .string ⟨#[35, 67, 89, 67, 76, 69, 33]⟩] W fun e w' => e = .returned (.bool true) ∧ W = w' from fun W => by rw [← hp]; exact HP.out [35, 67, 89, 67, 76, 69, 33] W)
          clear hd hq hp
          go_wp2_with (go_at_call 27; (with_reducible refine (HX.out _).mono ?_); rintro e w' ⟨rfl, rfl⟩)
          go_ret2
          exact ⟨ret_pair (by rw [HQ.out] <;> rfl) (by rw [HQ.out] <;> rfl), Below.refl _ _⟩
        · rw [if_neg hp] at hd
          have HQ := Lib.hid (hq.out.trans hd)
          have HX := Lib.hid (show ∀ W, Calls Tryd.prog 27 #[.string s, .string ⟨#[35, 67, 89, 67, 76, 69, 33]⟩] W fun e w' => e = .returned (.bool false) ∧ W = w' from fun W => by rw [← Bool.not_eq_true _ |>.mp hp]; exact HP.out [35, 67, 89, 67, 76, 69, 33] W)
          clear hd hq hp
          go_wp2_with (go_at_call 27; (with_reducible refine (HX.out _).mono ?_); rintro e w' ⟨rfl, rfl⟩)
          go_round
          case rel => exact ⟨7, by omega, by go_num, HQ⟩
          case measure => simp [intOf]
      · have HQ := Lib.hid (show Fs.next s.data.toList = (8, 1) from by rw [HN.out, hq.out]; rfl)
        clear hq
        go_wp2_with fail
        go_ret2
        exact ⟨ret_pair (by rw [HQ.out] <;> rfl) (by rw [HQ.out] <;> rfl), Below.refl _ _⟩

set_option maxRecDepth 100000 in
set_option maxHeartbeats 8000000 in
theorem next_digit (s : ByteArray) (w : World) (he : Env w) (hs : s.size ≤ 4000000000) (h0 : 0 < s.size) (h32 : s[0] ≠ 32) (h9 : s[0] ≠ 9) (h34 : s[0] ≠ 34) (h35 : s[0] ≠ 35) (h39 : s[0] ≠ 39) (hd : Cr.dgt s[0] = true) :
    Calls Tryd.prog 32 #[.string s] w (NextRet s.data.toList w) := by
  have hN := next_of h0
  have hbl : Fs.blank s[0] = false := by simp [Fs.blank, h32, h9]
  rw [Fs.next1, if_neg (by rw [hbl]; simp), if_neg h34, if_neg h35, if_neg h39, if_pos hd] at hN
  have HR := Lib.hid (fs_rows s w he hs)
  have HM := Lib.hid fun W => fs_number s W hs
  have HD := Lib.hid (show ∀ W, Calls Tryd.prog 67 #[.int .u8 (s[0].toNat : Int)] W fun e w' => e = .returned (.bool true) ∧ W = w' from fun W => by rw [← hd]; exact fs_digit s[0] W)
  have hb32 : ((s[0].toNat : Int) == 32) = false := byte_k _ 32 (by decide) false (by rw [beq_eq_false_iff_ne]; exact h32)
  have hb9 : ((s[0].toNat : Int) == 9) = false := byte_k _ 9 (by decide) false (by rw [beq_eq_false_iff_ne]; exact h9)
  have hb34 : ((s[0].toNat : Int) == 34) = false := byte_k _ 34 (by decide) false (by rw [beq_eq_false_iff_ne]; exact h34)
  have hb35 : ((s[0].toNat : Int) == 35) = false := byte_k _ 35 (by decide) false (by rw [beq_eq_false_iff_ne]; exact h35)
  have hb39 : ((s[0].toNat : Int) == 39) = false := byte_k _ 39 (by decide) false (by rw [beq_eq_false_iff_ne]; exact h39)
  clear he h32 h9 h34 h35 h39 hbl hd
  generalize Fs.rows s.data.toList = r at *
  generalize Fs.number s.data.toList = m at *
  by_cases hz : r = 0
  · rw [if_pos hz] at hN
    have HN := Lib.hid hN
    subst hz
    clear hN
    go_enter Tryd.func32, Tryd.ntmps32
    go_wp2_with (first
      | (go_at_call 67; (with_reducible refine (HD.out _).mono ?_); rintro e w' ⟨rfl, rfl⟩)
      | (go_at_call 68; (with_reducible refine HR.out.mono ?_); rintro e w' ⟨rfl, hbb⟩; have HB := Lib.hid hbb; clear hbb)
      | (go_at_call 69; (with_reducible refine (HM.out _).mono ?_); rintro e w' ⟨rfl, rfl⟩))
    go_ret2
    exact ⟨ret_pair (by rw [HN.out] <;> rfl) (by rw [HN.out] <;> rfl), HB.out⟩
  · rw [if_neg hz] at hN
    have HN := Lib.hid hN
    have hp : 0 < r := by omega
    clear hN hz
    go_enter Tryd.func32, Tryd.ntmps32
    go_wp2_with (first
      | (go_at_call 67; (with_reducible refine (HD.out _).mono ?_); rintro e w' ⟨rfl, rfl⟩)
      | (go_at_call 68; (with_reducible refine HR.out.mono ?_); rintro e w' ⟨rfl, hbb⟩; have HB := Lib.hid hbb; clear hbb)
      | (go_at_call 69; (with_reducible refine (HM.out _).mono ?_); rintro e w' ⟨rfl, rfl⟩))
    go_ret2
    exact ⟨ret_pair (by rw [HN.out] <;> rfl) (by rw [HN.out] <;> rfl), HB.out⟩

set_option maxRecDepth 100000 in
set_option maxHeartbeats 8000000 in
theorem next_word (s : ByteArray) (w : World) (he : Env w) (hs : s.size ≤ 4000000000) (h0 : 0 < s.size) (h32 : s[0] ≠ 32) (h9 : s[0] ≠ 9) (h34 : s[0] ≠ 34) (h35 : s[0] ≠ 35) (h39 : s[0] ≠ 39) (hd : Cr.dgt s[0] = false) (hw : Cr.ltr s[0] = true ∨ s[0] = 95 ∨ s[0] = 36) :
    Calls Tryd.prog 32 #[.string s] w (NextRet s.data.toList w) := by
  have hN := next_of h0
  have hbl : Fs.blank s[0] = false := by simp [Fs.blank, h32, h9]
  rw [Fs.next1, if_neg (by rw [hbl]; simp), if_neg h34, if_neg h35, if_neg h39, if_neg (by rw [hd]; simp), if_pos hw] at hN
  have HN := Lib.hid hN
  have HW := Lib.hid (fs_word s w he hs)
  have HD := Lib.hid (show ∀ W, Calls Tryd.prog 67 #[.int .u8 (s[0].toNat : Int)] W fun e w' => e = .returned (.bool false) ∧ W = w' from fun W => by rw [← hd]; exact fs_digit s[0] W)
  have HL := Lib.hid fun W => fs_letter s[0] W
  have hq := byte_eq s[0] 95 (by decide)
  have hq2 := byte_eq s[0] 36 (by decide)
  have hb32 : ((s[0].toNat : Int) == 32) = false := byte_k _ 32 (by decide) false (by rw [beq_eq_false_iff_ne]; exact h32)
  have hb9 : ((s[0].toNat : Int) == 9) = false := byte_k _ 9 (by decide) false (by rw [beq_eq_false_iff_ne]; exact h9)
  have hb34 : ((s[0].toNat : Int) == 34) = false := byte_k _ 34 (by decide) false (by rw [beq_eq_false_iff_ne]; exact h34)
  have hb35 : ((s[0].toNat : Int) == 35) = false := byte_k _ 35 (by decide) false (by rw [beq_eq_false_iff_ne]; exact h35)
  have hb39 : ((s[0].toNat : Int) == 39) = false := byte_k _ 39 (by decide) false (by rw [beq_eq_false_iff_ne]; exact h39)
  clear he h32 h9 h34 h35 h39 hbl hd hN
  generalize Fs.word s.data.toList = F at *
  rcases hw with hw | hw
  · have HL2 := Lib.hid (show ∀ W, Calls Tryd.prog 70 #[.int .u8 (s[0].toNat : Int)] W fun e w' => e = .returned (.bool true) ∧ W = w' from fun W => by rw [← hw]; exact HL.out W)
    clear hw HL hq hq2
    go_enter Tryd.func32, Tryd.ntmps32
    go_wp2_with (first
      | (go_at_call 67; refine (HD.out _).mono ?_; rintro e w' ⟨rfl, rfl⟩)
      | (go_at_call 70; refine (HL2.out _).mono ?_; rintro e w' ⟨rfl, rfl⟩)
      | (go_at_call 71; (with_reducible refine HW.out.mono ?_); rintro e w' ⟨rfl, hbb⟩; have HB := Lib.hid hbb; clear hbb))
    go_ret2
    exact ⟨ret_pair (by rw [HN.out] <;> rfl) (by rw [HN.out] <;> rfl), HB.out⟩
  · have hl : Cr.ltr s[0] = false := by rcases hw with h | h <;> (rw [h]; decide)
    have HL2 := Lib.hid (show ∀ W, Calls Tryd.prog 70 #[.int .u8 (s[0].toNat : Int)] W fun e w' => e = .returned (.bool false) ∧ W = w' from fun W => by rw [← hl]; exact HL.out W)
    rcases hw with hw | hw
    · have hb : ((s[0].toNat : Int) == 95) = true := hq.trans (by rw [hw]; rfl)
      clear hw HL hq hq2 hl
      go_enter Tryd.func32, Tryd.ntmps32
      go_wp2_with (first
      | (go_at_call 67; refine (HD.out _).mono ?_; rintro e w' ⟨rfl, rfl⟩)
      | (go_at_call 70; refine (HL2.out _).mono ?_; rintro e w' ⟨rfl, rfl⟩)
      | (go_at_call 71; (with_reducible refine HW.out.mono ?_); rintro e w' ⟨rfl, hbb⟩; have HB := Lib.hid hbb; clear hbb))
      go_ret2
      exact ⟨ret_pair (by rw [HN.out] <;> rfl) (by rw [HN.out] <;> rfl), HB.out⟩
    · have hb : ((s[0].toNat : Int) == 36) = true := hq2.trans (by rw [hw]; rfl)
      have hb2 : ((s[0].toNat : Int) == 95) = false := hq.trans (by rw [hw]; rfl)
      clear hw HL hq hq2 hl
      go_enter Tryd.func32, Tryd.ntmps32
      go_wp2_with (first
      | (go_at_call 67; refine (HD.out _).mono ?_; rintro e w' ⟨rfl, rfl⟩)
      | (go_at_call 70; refine (HL2.out _).mono ?_; rintro e w' ⟨rfl, rfl⟩)
      | (go_at_call 71; (with_reducible refine HW.out.mono ?_); rintro e w' ⟨rfl, hbb⟩; have HB := Lib.hid hbb; clear hbb))
      go_ret2
      exact ⟨ret_pair (by rw [HN.out] <;> rfl) (by rw [HN.out] <;> rfl), HB.out⟩

set_option maxRecDepth 100000 in
set_option maxHeartbeats 8000000 in
theorem next_op (s : ByteArray) (w : World) (_he : Env w) (_hs : s.size ≤ 4000000000) (h0 : 0 < s.size) (h32 : s[0] ≠ 32) (h9 : s[0] ≠ 9) (h34 : s[0] ≠ 34) (h35 : s[0] ≠ 35) (h39 : s[0] ≠ 39) (hd : Cr.dgt s[0] = false) (hl : Cr.ltr s[0] = false) (h95 : s[0] ≠ 95) (h36 : s[0] ≠ 36) :
    Calls Tryd.prog 32 #[.string s] w (NextRet s.data.toList w) := by
  have hN := next_of h0
  have hbl : Fs.blank s[0] = false := by simp [Fs.blank, h32, h9]
  rw [Fs.next1, if_neg (by rw [hbl]; simp), if_neg h34, if_neg h35, if_neg h39, if_neg (by rw [hd]; simp), if_neg (by rw [hl]; simp [h95, h36])] at hN
  have HD := Lib.hid (show ∀ W, Calls Tryd.prog 67 #[.int .u8 (s[0].toNat : Int)] W fun e w' => e = .returned (.bool false) ∧ W = w' from fun W => by rw [← hd]; exact fs_digit s[0] W)
  have HL2 := Lib.hid (show ∀ W, Calls Tryd.prog 70 #[.int .u8 (s[0].toNat : Int)] W fun e w' => e = .returned (.bool false) ∧ W = w' from fun W => by rw [← hl]; exact fs_letter s[0] W)
  have hb32 : ((s[0].toNat : Int) == 32) = false := byte_k _ 32 (by decide) false (by rw [beq_eq_false_iff_ne]; exact h32)
  have hb9 : ((s[0].toNat : Int) == 9) = false := byte_k _ 9 (by decide) false (by rw [beq_eq_false_iff_ne]; exact h9)
  have hb34 : ((s[0].toNat : Int) == 34) = false := byte_k _ 34 (by decide) false (by rw [beq_eq_false_iff_ne]; exact h34)
  have hb35 : ((s[0].toNat : Int) == 35) = false := byte_k _ 35 (by decide) false (by rw [beq_eq_false_iff_ne]; exact h35)
  have hb39 : ((s[0].toNat : Int) == 39) = false := byte_k _ 39 (by decide) false (by rw [beq_eq_false_iff_ne]; exact h39)
  have hb95 : ((s[0].toNat : Int) == 95) = false := byte_k _ 95 (by decide) false (by rw [beq_eq_false_iff_ne]; exact h95)
  have hb36 : ((s[0].toNat : Int) == 36) = false := byte_k _ 36 (by decide) false (by rw [beq_eq_false_iff_ne]; exact h36)
  clear h32 h9 h34 h35 h39 hbl hd hl h95 h36
  have H1 := Lib.hid fun W => pre_any s [60, 61] W
  have H2 := Lib.hid fun W => pre_any s [62, 61] W
  have H3 := Lib.hid fun W => pre_any s [60, 62] W
  have HO := Lib.hid fun W => ops_any s[0] W
  rw [Fs.two, ops1_eq] at hN
  generalize Lib.hasPrefix s.data.toList [60, 61] = p1 at *
  generalize Lib.hasPrefix s.data.toList [62, 61] = p2 at *
  generalize Lib.hasPrefix s.data.toList [60, 62] = p3 at *
  generalize Lib.indexByte Fs.ops s[0] = oi at *
  have HN := Lib.hid hN
  clear hN
  go_enter Tryd.func32, Tryd.ntmps32
  cases p1 <;> cases p2 <;> cases p3 <;> by_cases ho : 0 ≤ oi
  all_goals
    go_wp2_with (first
      | (go_at_call 67; refine (HD.out _).mono ?_; rintro e w' ⟨rfl, rfl⟩)
      | (go_at_call 70; refine (HL2.out _).mono ?_; rintro e w' ⟨rfl, rfl⟩)
      | (go_at_call 27; first | ((with_reducible refine (H1.out _).mono ?_); rintro e w' ⟨rfl, rfl⟩) | ((with_reducible refine (H2.out _).mono ?_); rintro e w' ⟨rfl, rfl⟩) | ((with_reducible refine (H3.out _).mono ?_); rintro e w' ⟨rfl, rfl⟩))
      | (go_at_call 72; refine (HO.out _).mono ?_; rintro e w' ⟨rfl, rfl⟩))
    go_ret2
    exact ⟨ret_pair (by rw [HN.out]; first | rfl | (rw [decide_eq_true (show 0 ≤ oi by omega)]; rfl) | (rw [decide_eq_false (show ¬ 0 ≤ oi by omega)]; rfl)) (by rw [HN.out]; first | rfl | (rw [decide_eq_true (show 0 ≤ oi by omega)]; rfl) | (rw [decide_eq_false (show ¬ 0 ≤ oi by omega)]; rfl)), Below.refl _ _⟩

theorem fs_next (s : ByteArray) (w : World) (he : Env w) (hs : s.size ≤ 4000000000) (h0 : 0 < s.size) :
    Calls Tryd.prog 32 #[.string s] w (NextRet s.data.toList w) := by
  by_cases hb : Fs.blank s[0] = true
  · exact next_blank s w he hs h0 hb
  have h32 : s[0] ≠ 32 := fun h => hb (by rw [h]; rfl)
  have h9 : s[0] ≠ 9 := fun h => hb (by rw [h]; rfl)
  by_cases h34 : s[0] = 34
  · exact next_text s w he hs h0 h34
  by_cases h35 : s[0] = 35
  · exact next_hash s w he hs h0 h35
  by_cases h39 : s[0] = 39
  · exact next_quote s w he hs h0 h39
  cases hd : Cr.dgt s[0] with
  | true => exact next_digit s w he hs h0 h32 h9 h34 h35 h39 hd
  | false =>
    by_cases hw : Cr.ltr s[0] = true ∨ s[0] = 95 ∨ s[0] = 36
    · exact next_word s w he hs h0 h32 h9 h34 h35 h39 hd hw
    · have hl : Cr.ltr s[0] = false := by
        cases h : Cr.ltr s[0]
        · rfl
        · exact absurd (.inl h) hw
      exact next_op s w he hs h0 h32 h9 h34 h35 h39 hd hl (fun h => hw (.inr (.inl h))) (fun h => hw (.inr (.inr h)))
end Go.Proofs.YtjgojbkmeggmhaaDoor
