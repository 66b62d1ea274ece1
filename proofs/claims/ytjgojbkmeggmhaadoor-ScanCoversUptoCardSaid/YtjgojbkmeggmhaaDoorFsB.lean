/- The contracts of fscan's area, sheeted, rows. -/
import Derived.Test.YtjgojbkmeggmhaaDoorFsA
namespace Go.Proofs.YtjgojbkmeggmhaaDoor
open Go.RowKit

theorem at_byte (s : ByteArray) (n : Nat) (h : n < s.size) : s.data.toList[n]? = some s[n] := by
  have hkl : n < s.data.toList.length := by simpa using h
  rw [List.getElem?_eq_getElem hkl]
  rfl
theorem at_none' (s : ByteArray) (n : Nat) (h : ¬ n < s.size) : s.data.toList[n]? = none := by
  rw [List.getElem?_eq_none]
  have : s.data.toList.length = s.size := by simp
  omega
theorem ex_to (s : ByteArray) (k : Nat) : (s.extract 0 k).data.toList = s.data.toList.take k := by rw [Lib.extract_data]; simp
theorem ex_from (s : ByteArray) (k : Nat) : (s.extract k s.size).data.toList = s.data.toList.drop k := by
  rw [Lib.extract_data]
  have : s.data.toList.length = s.size := by simp
  rw [← this, List.take_of_length_le (by simp)]
theorem ex_size (s : ByteArray) (a b : Nat) : (s.extract a b).size ≤ s.size := by rw [ByteArray.size_extract]; omega
theorem byte_k (c : UInt8) (k : Nat) (hk : k < 256) (b : Bool) (h : (c == UInt8.ofNat k) = b) : ((c.toNat : Int) == (k : Int)) = b := by rw [byte_eq c k hk, h]

theorem byte_kn (c : UInt8) (k : Nat) (hk : k < 256) (b : Bool) (h : (c == UInt8.ofNat k) = b) : ((c.toNat : Int) != (k : Int)) = !b := by rw [bne, byte_eq c k hk, h]

/-- What isRef answers at a beginning. -/
theorem isRef_to (s : ByteArray) (k : Nat) (W : World) (he : Env W) (hs : s.size ≤ 4000000000) :
    Calls Tryd.prog 91 #[.string (s.extract 0 k)] W fun e w' => e = .returned (.bool (Fs.isRef (s.data.toList.take k))) ∧ Below W.heap.size W w' := by
  have h := fs_isRef (s.extract 0 k) W he (by have := ex_size s 0 k; omega)
  rwa [ex_to] at h
theorem runC_from (s : ByteArray) (k : Nat) (W : World) (hs : s.size ≤ 4000000000) :
    Calls Tryd.prog 63 #[.string (s.extract k s.size), .func (.func 90) #[] #[]] W fun e w' => e = .returned (.int .i64 (Fs.run Fs.corner (s.data.toList.drop k))) ∧ W = w' := by
  have h := fs_run_corner (s.extract k s.size) W (by have := ex_size s k s.size; unfold maxLen; omega)
  rwa [ex_from] at h

theorem fs_area (s : ByteArray) (n : Nat) (z : Int) (hz : z = n) (w : World) (he : Env w) (hs : s.size ≤ 4000000000) (hn : n ≤ s.size) :
    Calls Tryd.prog 89 #[.string s, .int .i64 z] w fun e w' => e = .returned (.int .i64 (Fs.area s.data.toList n)) ∧ Below w.heap.size w w' := by
  subst hz
  have HI := Lib.hid fun k W (hb : Below w.heap.size w W) => isRef_to s k W (he.below hb) hs
  by_cases hc : ∃ h : n < s.size, s[n] = 58
  · obtain ⟨hlt, h58⟩ := hc
    have hr := fun W => runC_from s (n + 1) W hs
    have hrl : Fs.run Fs.corner (s.data.toList.drop (n + 1)) ≤ s.size - (n + 1) := by
      have := Fs.run_le Fs.corner (s.data.toList.drop (n + 1))
      rw [List.length_drop] at this
      simpa using this
    have hst : Fs.stop s.data.toList n = n + 1 + Fs.run Fs.corner (s.data.toList.drop (n + 1)) := rfl
    generalize Fs.run Fs.corner (s.data.toList.drop (n + 1)) = r at *
    have HR := Lib.hid hr
    have hb : ((s[n].toNat : Int) == 58) = true := byte_k _ 58 (by decide) true (by rw [h58]; rfl)
    have HA := Lib.hid (show Fs.area s.data.toList n = if Fs.isRef (s.data.toList.take (n + 1 + r)) = true then n + 1 + r else if Fs.isRef (s.data.toList.take n) = true then n else 0 from by
      rw [Fs.area, hst]
      simp [at_byte s n hlt, h58])
    clear hr hst h58
    cases h1 : Fs.isRef (s.data.toList.take (n + 1 + r)) with
    | true =>
      have HI1 := Lib.hid (show ∀ W, Below w.heap.size w W → Calls Tryd.prog 91 #[.string (s.extract 0 (n + 1 + r))] W fun e w' => e = .returned (.bool true) ∧ Below W.heap.size W w' from fun W hW => by rw [← h1]; exact HI.out _ W hW)
      have HF := Lib.hid (show Fs.area s.data.toList n = n + 1 + r from by rw [HA.out, if_pos h1])
      clear h1 HA HI
      go_enter Tryd.func89, Tryd.ntmps89
      go_wp2_with (first
        | (go_at_call 63; (with_reducible refine (HR.out _).mono ?_); rintro e w' ⟨rfl, rfl⟩)
        | (go_at_call 91; (with_reducible refine (HI1.out _ (Below.refl _ _)).mono ?_); rintro e w' ⟨rfl, hbb⟩; have HB := Lib.hid hbb; clear hbb))
      go_ret
      exact ⟨ret_int (by rw [HF.out]; push_cast; omega), HB.out⟩
    | false =>
      have HI1 := Lib.hid (show ∀ W, Below w.heap.size w W → Calls Tryd.prog 91 #[.string (s.extract 0 (n + 1 + r))] W fun e w' => e = .returned (.bool false) ∧ Below W.heap.size W w' from fun W hW => by rw [← h1]; exact HI.out _ W hW)
      have HF := Lib.hid (show Fs.area s.data.toList n = if Fs.isRef (s.data.toList.take n) = true then n else 0 from by rw [HA.out, if_neg (by rw [h1]; simp)])
      have HI2 := Lib.hid (fun W h => HI.out n W h)
      clear h1 HA HI
      generalize Fs.isRef (s.data.toList.take n) = b2 at *
      go_enter Tryd.func89, Tryd.ntmps89
      go_wp2_with (first
        | (go_at_call 63; (with_reducible refine (HR.out _).mono ?_); rintro e w' ⟨rfl, rfl⟩)
        | (go_at_call 91; first
          | ((with_reducible refine (HI1.out _ (Below.refl _ _)).mono ?_); rintro e w' ⟨rfl, hbb⟩; have HB := Lib.hid hbb; clear hbb)
          | ((with_reducible refine (HI2.out _ HB.out).mono ?_); rintro e w' ⟨rfl, hbb⟩; have HB2 := Lib.hid (below_tr HB.out hbb); clear hbb)))
      all_goals
        go_ret
        exact ⟨ret_int (by rw [HF.out]; simp [*]), HB2.out⟩
  · have HF := Lib.hid (show Fs.area s.data.toList n = if Fs.isRef (s.data.toList.take n) = true then n else 0 from by
      rw [Fs.area, if_neg]
      rintro ⟨h, -⟩
      by_cases hlt : n < s.size
      · rw [at_byte s n hlt] at h; exact hc ⟨hlt, Option.some.inj h⟩
      · rw [at_none' s n hlt] at h; cases h)
    have HI2 := Lib.hid (fun W h => HI.out n W h)
    clear HI
    generalize Fs.isRef (s.data.toList.take n) = b2 at *
    by_cases hlt : n < s.size
    · have hb : ((s[n].toNat : Int) == 58) = false := byte_k _ 58 (by decide) false (by
        rw [beq_eq_false_iff_ne]; exact fun h => hc ⟨hlt, h⟩)
      clear hc
      go_enter Tryd.func89, Tryd.ntmps89
      go_wp2_with (go_at_call 91; (with_reducible refine (HI2.out _ (Below.refl _ _)).mono ?_); rintro e w' ⟨rfl, hbb⟩; have HB2 := Lib.hid hbb; clear hbb)
      all_goals
        go_ret
        exact ⟨ret_int (by rw [HF.out]; simp [*]), HB2.out⟩
    · clear hc
      go_enter Tryd.func89, Tryd.ntmps89
      go_wp2_with (go_at_call 91; (with_reducible refine (HI2.out _ (Below.refl _ _)).mono ?_); rintro e w' ⟨rfl, hbb⟩; have HB2 := Lib.hid hbb; clear hbb)
      all_goals
        go_ret
        exact ⟨ret_int (by rw [HF.out]; simp [*]), HB2.out⟩
end Go.Proofs.YtjgojbkmeggmhaaDoor
