/- The contracts of fscan's sheeted, rows, quoted, brackets. -/
import Derived.Test.YtjgojbkmeggmhaaDoorFsB
namespace Go.Proofs.YtjgojbkmeggmhaaDoor
open Go.RowKit

theorem fs_sheeted (s : ByteArray) (n : Nat) (z : Int) (hz : z = n) (w : World) (he : Env w) (hs : s.size ≤ 4000000000) (hn : n ≤ s.size) :
    Calls Tryd.prog 66 #[.string s, .int .i64 z] w fun e w' => e = .returned (.int .i64 (Fs.sheeted s.data.toList n)) ∧ Below w.heap.size w w' := by
  subst hz
  by_cases hc : ∃ h : n < s.size, s[n] = 33
  · obtain ⟨hlt, h33⟩ := hc
    have hr := fun W => runC_from s (n + 1) W hs
    have hst : Fs.stop s.data.toList n = n + 1 + Fs.run Fs.corner (s.data.toList.drop (n + 1)) := rfl
    have hle : Fs.stop s.data.toList n ≤ s.data.toList.length := Fs.stop_le (by simpa using hlt)
    have hls : s.data.toList.length = s.size := by simp
    generalize Fs.run Fs.corner (s.data.toList.drop (n + 1)) = r at *
    have HR := Lib.hid hr
    have hb : ((s[n].toNat : Int) != 33) = false := byte_kn _ 33 (by decide) true (by rw [h33]; rfl)
    have HF := Lib.hid (show Fs.sheeted s.data.toList n = Fs.area s.data.toList (n + 1 + r) from by
      rw [Fs.sheeted, hst, if_pos (by rw [at_byte s n hlt, h33])])
    have hr2 : n + 1 + r ≤ s.size := by omega
    have HA := Lib.hid (fs_area s (n + 1 + r) (n + 1 + r) (by push_cast; rfl) w he hs hr2)
    clear hr hst h33 hle hls
    go_enter Tryd.func66, Tryd.ntmps66
    go_wp2_with (first
      | (go_at_call 63; (with_reducible refine (HR.out _).mono ?_); rintro e w' ⟨rfl, rfl⟩)
      | (go_at_call 89; (with_reducible refine HA.out.mono ?_); rintro e w' ⟨rfl, hbb⟩; have HB := Lib.hid hbb; clear hbb))
    go_ret
    exact ⟨ret_int (by rw [HF.out]), HB.out⟩
  · have HF := Lib.hid (show Fs.sheeted s.data.toList n = 0 from by
      rw [Fs.sheeted, if_neg]
      intro h
      by_cases hlt : n < s.size
      · rw [at_byte s n hlt] at h; exact hc ⟨hlt, Option.some.inj h⟩
      · rw [at_none' s n hlt] at h; cases h)
    by_cases hlt : n < s.size
    · have hb : ((s[n].toNat : Int) != 33) = true := byte_kn _ 33 (by decide) false (by rw [beq_eq_false_iff_ne]; exact fun h => hc ⟨hlt, h⟩)
      clear hc
      go_enter Tryd.func66, Tryd.ntmps66
      go_wp2_with fail
      go_ret
      exact ⟨ret_int (by rw [HF.out]; rfl), Below.refl _ _⟩
    · clear hc
      go_enter Tryd.func66, Tryd.ntmps66
      go_wp2_with fail
      go_ret
      exact ⟨ret_int (by rw [HF.out]; rfl), Below.refl _ _⟩

theorem fs_rows (s : ByteArray) (w : World) (he : Env w) (hs : s.size ≤ 4000000000) :
    Calls Tryd.prog 68 #[.string s] w fun e w' => e = .returned (.int .i64 (Fs.rows s.data.toList)) ∧ Below w.heap.size w w' := by
  have hd := fun W => fs_run_digit s W (by unfold maxLen; omega)
  have HI := Lib.hid fun k => isRef_to s k w he hs
  have hnl := Fs.run_le Cr.dgt s.data.toList
  rw [show s.data.toList.length = s.size by simp] at hnl
  have hF : Fs.rows s.data.toList = if s.data.toList[Fs.run Cr.dgt s.data.toList]? = some 58 ∧ Fs.isRef (s.data.toList.take (Fs.stop s.data.toList (Fs.run Cr.dgt s.data.toList))) = true then Fs.stop s.data.toList (Fs.run Cr.dgt s.data.toList) else 0 := rfl
  generalize Fs.run Cr.dgt s.data.toList = n at *
  have HD := Lib.hid hd
  have HF := Lib.hid hF
  clear hd hF
  by_cases hc : ∃ h : n < s.size, s[n] = 58
  · obtain ⟨hlt, h58⟩ := hc
    have hr := fun W => runC_from s (n + 1) W hs
    have hst : Fs.stop s.data.toList n = n + 1 + Fs.run Fs.corner (s.data.toList.drop (n + 1)) := rfl
    have hle : Fs.stop s.data.toList n ≤ s.data.toList.length := Fs.stop_le (by simpa using hlt)
    rw [show s.data.toList.length = s.size by simp] at hle
    generalize Fs.run Fs.corner (s.data.toList.drop (n + 1)) = r at *
    have HR := Lib.hid hr
    have hb : ((s[n].toNat : Int) == 58) = true := byte_k _ 58 (by decide) true (by rw [h58]; rfl)
    have HG := Lib.hid (show Fs.rows s.data.toList = if Fs.isRef (s.data.toList.take (n + 1 + r)) = true then n + 1 + r else 0 from by
      rw [HF.out, hst]
      simp [at_byte s n hlt, h58])
    have hr2 : n + 1 + r ≤ s.size := by omega
    have HI2 := Lib.hid (HI.out (n + 1 + r))
    clear hr hst h58 hle HF HI
    generalize Fs.isRef (s.data.toList.take (n + 1 + r)) = b at *
    go_enter Tryd.func68, Tryd.ntmps68
    go_wp2_with (first
      | (go_at_call 63; first
        | ((with_reducible refine (HR.out _).mono ?_); rintro e w' ⟨rfl, rfl⟩)
        | ((with_reducible refine (HD.out _).mono ?_); rintro e w' ⟨rfl, rfl⟩))
      | (go_at_call 91; (with_reducible refine HI2.out.mono ?_); rintro e w' ⟨rfl, hbb⟩; have HB := Lib.hid hbb; clear hbb))
    all_goals
      go_ret
      exact ⟨ret_int (by rw [HG.out]; simp [*]), HB.out⟩
  · have HG := Lib.hid (show Fs.rows s.data.toList = 0 from by
      rw [HF.out, if_neg]
      rintro ⟨h, -⟩
      by_cases hlt : n < s.size
      · rw [at_byte s n hlt] at h; exact hc ⟨hlt, Option.some.inj h⟩
      · rw [at_none' s n hlt] at h; cases h)
    by_cases hlt : n < s.size
    · have hb : ((s[n].toNat : Int) == 58) = false := byte_k _ 58 (by decide) false (by rw [beq_eq_false_iff_ne]; exact fun h => hc ⟨hlt, h⟩)
      clear hc HF
      go_enter Tryd.func68, Tryd.ntmps68
      go_wp2_with (go_at_call 63; (with_reducible refine (HD.out _).mono ?_); rintro e w' ⟨rfl, rfl⟩)
      go_ret
      exact ⟨ret_int (by rw [HG.out]; rfl), Below.refl _ _⟩
    · clear hc HF
      go_enter Tryd.func68, Tryd.ntmps68
      go_wp2_with (go_at_call 63; (with_reducible refine (HD.out _).mono ?_); rintro e w' ⟨rfl, rfl⟩)
      go_ret
      exact ⟨ret_int (by rw [HG.out]; rfl), Below.refl _ _⟩
end Go.Proofs.YtjgojbkmeggmhaaDoor
