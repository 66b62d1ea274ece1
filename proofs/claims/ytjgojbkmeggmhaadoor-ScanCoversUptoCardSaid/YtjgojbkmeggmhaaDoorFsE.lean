/- The contract of fscan's number. -/
import Derived.Test.YtjgojbkmeggmhaaDoorFsD
import Derived.Deep.DeepCutAuto
namespace Go.Proofs.YtjgojbkmeggmhaaDoor
open Go.RowKit

theorem or32 (c : UInt8) : bits .or .u8 (c.toNat : Int) 32 = ((c.toNat ||| 32 : Nat) : Int) := by
  have h : ∀ k : Fin 256, bits .or .u8 (k.val : Int) 32 = ((k.val ||| 32 : Nat) : Int) := by decide +kernel
  exact h ⟨c.toNat, c.toNat_lt⟩
theorem runD_from (s : ByteArray) (k : Nat) (W : World) (hs : s.size ≤ 4000000000) :
    Calls Tryd.prog 63 #[.string (s.extract k s.size), .func (.func 67) #[] #[]] W fun e w' => e = .returned (.int .i64 (Fs.run Cr.dgt (s.data.toList.drop k))) ∧ W = w' := by
  have h := fs_run_digit (s.extract k s.size) W (by have := ex_size s k s.size; unfold maxLen; omega)
  rwa [ex_from] at h
theorem not_at {s : ByteArray} {n : Nat} {c : UInt8} (h : ¬ s.data.toList[n]? = some c) (hlt : n < s.size) : (s[n] == c) = false := by
  rw [beq_eq_false_iff_ne]
  intro e
  rw [at_byte s n hlt, e] at h
  exact h rfl
theorem is_at {s : ByteArray} {n : Nat} {c : UInt8} (h : s.data.toList[n]? = some c) : ∃ h : n < s.size, s[n] = c := by
  by_cases hlt : n < s.size
  · rw [at_byte s n hlt] at h; exact ⟨hlt, Option.some.inj h⟩
  · rw [at_none' s n hlt] at h; cases h
set_option maxRecDepth 100000 in
theorem fs_number (s : ByteArray) (w : World) (hs : s.size ≤ 4000000000) :
    Calls Tryd.prog 69 #[.string s] w fun e w' => e = .returned (.int .i64 (Fs.number s.data.toList)) ∧ w = w' := by
  have hls : s.data.toList.length = s.size := by simp
  have hd := fun W => fs_run_digit s W (by unfold maxLen; omega)
  have HDF := Lib.hid fun k W => runD_from s k W hs
  have hnl := Fs.run_le Cr.dgt s.data.toList
  have hn1 := (Fs.num1_ge s.data.toList).2
  rw [hls] at hnl hn1
  have hF : Fs.number s.data.toList = Fs.num2 s.data.toList (Fs.num1 s.data.toList) := rfl
  have hF1 : Fs.num1 s.data.toList = if s.data.toList[Fs.run Cr.dgt s.data.toList]? = some 46 ∧ 0 < Fs.run Cr.dgt (s.data.toList.drop (Fs.run Cr.dgt s.data.toList + 1)) then Fs.run Cr.dgt s.data.toList + 1 + Fs.run Cr.dgt (s.data.toList.drop (Fs.run Cr.dgt s.data.toList + 1)) else Fs.run Cr.dgt s.data.toList := rfl
  generalize Fs.num1 s.data.toList = n1 at *
  generalize Fs.number s.data.toList = F at *
  generalize Fs.run Cr.dgt s.data.toList = n at *
  have HD := Lib.hid hd
  have HF := Lib.hid hF
  have HF1 := Lib.hid hF1
  clear hd hF hF1 hls
  go_enter Tryd.func69, Tryd.ntmps69
  go_upto_region 2 with (go_at_call 63; (with_reducible refine (HD.out _).mono ?_); rintro e w' ⟨rfl, rfl⟩)
  obtain ⟨b1, hb1⟩ : ∃ b1, b1 = decide (s.data.toList[n]? = some 46) := ⟨_, rfl⟩
  have HB1 := Lib.hid hb1
  clear hb1
  go_cut [18] (fun v wx => v = .bool b1 ∧ wx = w)
  case first =>
    by_cases h46 : s.data.toList[n]? = some 46
    · obtain ⟨hlt, hc⟩ := is_at h46
      have hb : ((s[n].toNat : Int) == 46) = true := byte_k _ 46 (by decide) true (by rw [hc]; rfl)
      have HB2 := Lib.hid (show b1 = true from by rw [HB1.out, decide_eq_true h46])
      clear h46 hc
      go_wp2_with fail
      go_meet
      exact ⟨by rw [HB2.out], rfl⟩
    · have HB2 := Lib.hid (show b1 = false from by rw [HB1.out, decide_eq_false h46])
      by_cases hlt : n < s.size
      · have hb : ((s[n].toNat : Int) == 46) = false := byte_k _ 46 (by decide) false (not_at h46 hlt)
        clear h46
        go_wp2_with fail
        go_meet
        exact ⟨by rw [HB2.out], rfl⟩
      · clear h46
        go_wp2_with fail
        go_meet
        exact ⟨by rw [HB2.out], rfl⟩
  case rest =>
  obtain ⟨rfl, rfl⟩ := hcut
  go_upto_if 18 with fail
  go_cut [3] (fun v wx => v = .int .i64 (n1 : Int) ∧ wx = wc)
  case first =>
    cases b1 with
    | true =>
      have h46 : s.data.toList[n]? = some 46 := of_decide_eq_true HB1.out.symm
      obtain ⟨hlt, hc⟩ := is_at h46
      have hr := HDF.out (n + 1)
      have hrl := Fs.run_le Cr.dgt (s.data.toList.drop (n + 1))
      rw [List.length_drop, show s.data.toList.length = s.size by simp] at hrl
      rw [h46] at HF1
      generalize Fs.run Cr.dgt (s.data.toList.drop (n + 1)) = r at *
      have HR := Lib.hid hr
      by_cases hr0 : 0 < r
      · have HN := Lib.hid (show n1 = n + 1 + r from by rw [HF1.out, if_pos ⟨rfl, hr0⟩])
        clear hr h46 hc HF1
        go_wp2_with (go_at_call 63; (with_reducible refine (HR.out _).mono ?_); rintro e w' ⟨rfl, rfl⟩)
        go_meet
        exact ⟨by rw [HN.out]; push_cast; go_num, rfl⟩
      · have HN := Lib.hid (show n1 = n from by rw [HF1.out, if_neg (fun h => hr0 h.2)])
        clear hr h46 hc HF1
        go_wp2_with (go_at_call 63; (with_reducible refine (HR.out _).mono ?_); rintro e w' ⟨rfl, rfl⟩)
        go_meet
        exact ⟨by rw [HN.out], rfl⟩
    | false =>
      have HN := Lib.hid (show n1 = n from by rw [HF1.out, if_neg (fun h => of_decide_eq_false HB1.out.symm h.1)])
      go_wp2_with fail
      go_meet
      exact ⟨by rw [HN.out], rfl⟩
  case rest =>
    obtain ⟨rfl, rfl⟩ := hcut
    clear HF1 HD
    by_cases hE : Fs.isE (s.data.toList[n1]?) = true
    · have hx : ∃ h : n1 < s.size, (s[n1] ||| 32) = 101 := by
        by_cases hlt : n1 < s.size
        · rw [at_byte s n1 hlt] at hE
          exact ⟨hlt, by simpa [Fs.isE] using hE⟩
        · rw [at_none' s n1 hlt] at hE; cases hE
      obtain ⟨hlt, hc⟩ := hx
      have ho := or32 s[n1]
      have hb : ((((s[n1].toNat ||| 32 : Nat)) : Int) == 101) = true := byte_k (s[n1] ||| 32) 101 (by decide) true (by rw [hc]; rfl)
      have hm : Fs.expo s.data.toList n1 = n1 + 1 ∧ (¬ ∃ h : n1 + 1 < s.size, s[n1 + 1] = 43 ∨ s[n1 + 1] = 45) ∨ Fs.expo s.data.toList n1 = n1 + 2 ∧ ∃ h : n1 + 1 < s.size, s[n1 + 1] = 43 ∨ s[n1 + 1] = 45 := by
        by_cases h2 : ∃ h : n1 + 1 < s.size, s[n1 + 1] = 43 ∨ s[n1 + 1] = 45
        · refine .inr ⟨?_, h2⟩
          obtain ⟨h3, h4⟩ := h2
          rw [Fs.expo, if_pos]
          rw [at_byte s _ h3]
          simpa [Fs.isS] using h4
        · refine .inl ⟨?_, h2⟩
          rw [Fs.expo, if_neg]
          intro h3
          by_cases h4 : n1 + 1 < s.size
          · rw [at_byte s _ h4] at h3
            exact h2 ⟨h4, by simpa [Fs.isS] using h3⟩
          · rw [at_none' s _ h4] at h3; cases h3
      have hG : F = if 0 < Fs.run Cr.dgt (s.data.toList.drop (Fs.expo s.data.toList n1)) then Fs.expo s.data.toList n1 + Fs.run Cr.dgt (s.data.toList.drop (Fs.expo s.data.toList n1)) else n1 := by
        rw [HF.out, Fs.num2]
        by_cases h0 : 0 < Fs.run Cr.dgt (s.data.toList.drop (Fs.expo s.data.toList n1))
        · rw [if_pos ⟨hE, h0⟩, if_pos h0]
        · rw [if_neg (fun h => h0 h.2), if_neg h0]
      rcases hm with ⟨hx, h2⟩ | ⟨hx, h3, h4⟩
      · rw [hx] at hG
        have hr := HDF.out (n1 + 1)
        have hrl := Fs.run_le Cr.dgt (s.data.toList.drop (n1 + 1))
        rw [List.length_drop, show s.data.toList.length = s.size by simp] at hrl
        generalize Fs.run Cr.dgt (s.data.toList.drop (n1 + 1)) = r at *
        have HR := Lib.hid hr
        have HG := Lib.hid hG
        have HO := ho
        by_cases h3 : n1 + 1 < s.size
        · have hs1 : ((s[n1 + 1].toNat : Int) == 43) = false := byte_k _ 43 (by decide) false (by rw [beq_eq_false_iff_ne]; exact fun h => h2 ⟨h3, .inl h⟩)
          have hs2 : ((s[n1 + 1].toNat : Int) == 45) = false := byte_k _ 45 (by decide) false (by rw [beq_eq_false_iff_ne]; exact fun h => h2 ⟨h3, .inr h⟩)
          clear hr hG hE hc hx h2 HF HDF ho
          go_wp2_with (go_at_call 63; (with_reducible refine (HR.out _).mono ?_); rintro e w' ⟨rfl, rfl⟩)
          all_goals
            go_ret
            exact ⟨ret_int (by rw [HG.out]; split <;> omega), rfl⟩
        · clear hr hG hE hc hx h2 HF HDF ho
          go_wp2_with (go_at_call 63; (with_reducible refine (HR.out _).mono ?_); rintro e w' ⟨rfl, rfl⟩)
          all_goals
            go_ret
            exact ⟨ret_int (by rw [HG.out]; split <;> omega), rfl⟩
      · rw [hx] at hG
        have hr := HDF.out (n1 + 2)
        have hrl := Fs.run_le Cr.dgt (s.data.toList.drop (n1 + 2))
        rw [List.length_drop, show s.data.toList.length = s.size by simp] at hrl
        generalize Fs.run Cr.dgt (s.data.toList.drop (n1 + 2)) = r at *
        have HR := Lib.hid hr
        have HG := Lib.hid hG
        have HO := ho
        rcases h4 with h4 | h4
        · have hs1 : ((s[n1 + 1].toNat : Int) == 43) = true := byte_k _ 43 (by decide) true (by rw [h4]; rfl)
          clear hr hG hE hc hx h4 HF HDF ho
          go_wp2_with (go_at_call 63; (with_reducible refine (HR.out _).mono ?_); rintro e w' ⟨rfl, rfl⟩)
          all_goals
            go_ret
            exact ⟨ret_int (by rw [HG.out]; split <;> omega), rfl⟩
        · have hs1 : ((s[n1 + 1].toNat : Int) == 43) = false := byte_k _ 43 (by decide) false (by rw [h4]; rfl)
          have hs2 : ((s[n1 + 1].toNat : Int) == 45) = true := byte_k _ 45 (by decide) true (by rw [h4]; rfl)
          clear hr hG hE hc hx h4 HF HDF ho
          go_wp2_with (go_at_call 63; (with_reducible refine (HR.out _).mono ?_); rintro e w' ⟨rfl, rfl⟩)
          all_goals
            go_ret
            exact ⟨ret_int (by rw [HG.out]; split <;> omega), rfl⟩
    · have HG := Lib.hid (show F = n1 from by
        rw [HF.out, Fs.num2, if_neg (fun h => hE h.1)])
      by_cases hlt : n1 < s.size
      · have ho := or32 s[n1]
        have hb : ((((s[n1].toNat ||| 32 : Nat)) : Int) == 101) = false := byte_k (s[n1] ||| 32) 101 (by decide) false (by
          rw [at_byte s n1 hlt] at hE
          simpa [Fs.isE] using hE)
        clear hE HF HDF
        go_wp2_with fail
        go_ret
        exact ⟨ret_int (by rw [HG.out]), rfl⟩
      · clear hE HF HDF
        go_wp2_with fail
        go_ret
        exact ⟨ret_int (by rw [HG.out]), rfl⟩
end Go.Proofs.YtjgojbkmeggmhaaDoor
