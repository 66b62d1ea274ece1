/- The contract of fscan's word. -/
import Derived.Test.YtjgojbkmeggmhaaDoorFsE
import Derived.Lib.IndexAny
namespace Go.Proofs.YtjgojbkmeggmhaaDoor
open Go.RowKit

theorem ret_pair {a b c d : Int} (h : a = c) (k : b = d) : Ending.returned (.tuple #[.int .i64 a, .int .i64 b]) = .returned (.tuple #[.int .i64 c, .int .i64 d]) := by rw [h, k]
theorem runW (s : ByteArray) (W : World) (hs : s.size ≤ 4000000000) :
    Calls Tryd.prog 63 #[.string s, .func (.func 92) #[] #[]] W fun e w' => e = .returned (.int .i64 (Fs.run Fs.wordly s.data.toList)) ∧ W = w' := fs_run_wordly s W (by unfold maxLen; omega)
theorem free_to (s : ByteArray) (k : Nat) (d : Bool) (hd : Fs.free (s.data.toList.take k) = !d) (W : World) :
    Calls Tryd.prog 93 #[.string (s.extract 0 k), .string ⟨#[36]⟩] W fun e w' => e = .returned (.bool d) ∧ W = w' := by
  have h := Tryd.strings_Contains_one (s.extract 0 k) 36 W
  rw [ex_to, ← Lib.contains_iff_indexByte] at h
  have e : (s.data.toList.take k).contains 36 = d := by
    unfold Fs.free at hd
    cases d <;> simpa using hd
  rw [e] at h
  exact h.mono fun e w' ⟨h1, h2⟩ => ⟨h1, h2.symm⟩
theorem plain_to (s : ByteArray) (k : Nat) (hs : s.size ≤ 4000000000) (W : World) :
    Calls Tryd.prog 78 #[.string (s.extract 0 k)] W fun e w' => e = .returned (.bool (Cr.plain (s.data.toList.take k))) ∧ W = w' := by
  have h := plain_any (s.extract 0 k) W (by have := ex_size s 0 k; unfold maxLen; omega)
  rwa [ex_to] at h
theorem brackets_from (s : ByteArray) (k : Nat) (hs : s.size ≤ 4000000000) (W : World) :
    Calls Tryd.prog 94 #[.string (s.extract k s.size)] W fun e w' => e = .returned (.int .i64 (Fs.br 0 (s.data.toList.drop k))) ∧ W = w' := by
  have h := fs_brackets (s.extract k s.size) W (by have := ex_size s k s.size; omega)
  rwa [ex_from] at h

set_option maxRecDepth 100000 in
set_option maxHeartbeats 8000000 in
theorem fs_word (s : ByteArray) (w : World) (he : Env w) (hs : s.size ≤ 4000000000) :
    Calls Tryd.prog 71 #[.string s] w fun e w' => e = .returned (.tuple #[.int .i64 (Fs.word s.data.toList).1, .int .i64 (Fs.word s.data.toList).2]) ∧ Below w.heap.size w w' := by
  have hw := fun W => runW s W hs
  have hnl := Fs.run_le Fs.wordly s.data.toList
  rw [show s.data.toList.length = s.size by simp] at hnl
  have hF : Fs.word s.data.toList = if s.data.toList[Fs.run Fs.wordly s.data.toList]? = some 33 ∧ Cr.plain (s.data.toList.take (Fs.run Fs.wordly s.data.toList)) = true then (4, Fs.sheeted s.data.toList (Fs.run Fs.wordly s.data.toList))
    else if s.data.toList[Fs.run Fs.wordly s.data.toList]? = some 40 ∧ Fs.free (s.data.toList.take (Fs.run Fs.wordly s.data.toList)) = true then (6, Fs.run Fs.wordly s.data.toList)
    else if s.data.toList[Fs.run Fs.wordly s.data.toList]? = some 91 ∧ Fs.free (s.data.toList.take (Fs.run Fs.wordly s.data.toList)) = true then (7, Fs.bump (Fs.run Fs.wordly s.data.toList) (Fs.br 0 (s.data.toList.drop (Fs.run Fs.wordly s.data.toList))))
    else if 0 < Fs.area s.data.toList (Fs.run Fs.wordly s.data.toList) then (4, Fs.area s.data.toList (Fs.run Fs.wordly s.data.toList))
    else if Fs.free (s.data.toList.take (Fs.run Fs.wordly s.data.toList)) = true then (5, Fs.run Fs.wordly s.data.toList) else (5, 0) := rfl
  generalize Fs.word s.data.toList = F at *
  generalize Fs.run Fs.wordly s.data.toList = n at *
  have HW := Lib.hid hw
  have HS := Lib.hid (fs_sheeted s n n rfl w he hs hnl)
  have HA := Lib.hid (fs_area s n n rfl w he hs hnl)
  have hp := plain_to s n hs
  have hbr := brackets_from s n hs
  have hbl : 0 < Fs.br 0 (s.data.toList.drop n) → Fs.br 0 (s.data.toList.drop n) ≤ s.size - n := fun h => by
    have := (Fs.br_alone 0 _ h).1
    rw [List.length_drop] at this
    simpa using this
  have hal : 0 < Fs.area s.data.toList n → Fs.area s.data.toList n ≤ s.size := fun h => by
    have := (Fs.area_alone h (by simpa using hnl)).2.1
    simpa using this
  generalize Fs.sheeted s.data.toList n = S at *
  generalize Fs.area s.data.toList n = A at *
  generalize Fs.br 0 (s.data.toList.drop n) = B at *
  obtain ⟨d, hd⟩ : ∃ d, Fs.free (s.data.toList.take n) = !d := ⟨!Fs.free (s.data.toList.take n), by simp⟩
  have HC := Lib.hid (free_to s n d hd)
  generalize Cr.plain (s.data.toList.take n) = P at *
  rw [hd] at hF
  clear hd hw he
  have HP := Lib.hid hp
  have HBR := Lib.hid hbr
  clear hp hbr
  by_cases hlt : n < s.size
  case neg =>
    have ho := at_none' s n hlt
    simp only [ho] at hF
    by_cases hA : 0 < A
    · have hA2 := hal hA
      have HG := Lib.hid (show F = (4, A) from by rw [hF]; simp [hA])
      clear hF ho
      go_enter Tryd.func71, Tryd.ntmps71
      go_wp2_with (first
        | (go_at_call 63; (with_reducible refine (HW.out _).mono ?_); rintro e w' ⟨rfl, rfl⟩)
        | (go_at_call 93; (with_reducible refine (HC.out _).mono ?_); rintro e w' ⟨rfl, rfl⟩)
        | (go_at_call 78; (with_reducible refine (HP.out _).mono ?_); rintro e w' ⟨rfl, rfl⟩)
        | (go_at_call 66; (with_reducible refine HS.out.mono ?_); rintro e w' ⟨rfl, hbb⟩; have HB := Lib.hid hbb; clear hbb)
        | (go_at_call 94; (with_reducible refine (HBR.out _).mono ?_); rintro e w' ⟨rfl, rfl⟩)
        | (go_at_call 89; (with_reducible refine HA.out.mono ?_); rintro e w' ⟨rfl, hbb⟩; have HB := Lib.hid hbb; clear hbb))
      go_ret2
      exact ⟨ret_pair (by rw [HG.out] <;> rfl) (by rw [HG.out] <;> rfl), HB.out⟩
    · cases d with
      | true =>
        have HG := Lib.hid (show F = (5, 0) from by rw [hF]; simp [hA])
        clear hF ho
        go_enter Tryd.func71, Tryd.ntmps71
        go_wp2_with (first
          | (go_at_call 63; (with_reducible refine (HW.out _).mono ?_); rintro e w' ⟨rfl, rfl⟩)
          | (go_at_call 93; (with_reducible refine (HC.out _).mono ?_); rintro e w' ⟨rfl, rfl⟩)
          | (go_at_call 78; (with_reducible refine (HP.out _).mono ?_); rintro e w' ⟨rfl, rfl⟩)
          | (go_at_call 66; (with_reducible refine HS.out.mono ?_); rintro e w' ⟨rfl, hbb⟩; have HB := Lib.hid hbb; clear hbb)
          | (go_at_call 94; (with_reducible refine (HBR.out _).mono ?_); rintro e w' ⟨rfl, rfl⟩)
          | (go_at_call 89; (with_reducible refine HA.out.mono ?_); rintro e w' ⟨rfl, hbb⟩; have HB := Lib.hid hbb; clear hbb))
        go_ret2
        exact ⟨ret_pair (by rw [HG.out] <;> rfl) (by rw [HG.out] <;> rfl), HB.out⟩
      | false =>
        have HG := Lib.hid (show F = (5, n) from by rw [hF]; simp [hA])
        clear hF ho
        go_enter Tryd.func71, Tryd.ntmps71
        go_wp2_with (first
          | (go_at_call 63; (with_reducible refine (HW.out _).mono ?_); rintro e w' ⟨rfl, rfl⟩)
          | (go_at_call 93; (with_reducible refine (HC.out _).mono ?_); rintro e w' ⟨rfl, rfl⟩)
          | (go_at_call 78; (with_reducible refine (HP.out _).mono ?_); rintro e w' ⟨rfl, rfl⟩)
          | (go_at_call 66; (with_reducible refine HS.out.mono ?_); rintro e w' ⟨rfl, hbb⟩; have HB := Lib.hid hbb; clear hbb)
          | (go_at_call 94; (with_reducible refine (HBR.out _).mono ?_); rintro e w' ⟨rfl, rfl⟩)
          | (go_at_call 89; (with_reducible refine HA.out.mono ?_); rintro e w' ⟨rfl, hbb⟩; have HB := Lib.hid hbb; clear hbb))
        go_ret2
        exact ⟨ret_pair (by rw [HG.out] <;> rfl) (by rw [HG.out] <;> rfl), HB.out⟩
  case pos =>
    have ho := at_byte s n hlt
    rw [ho] at hF
    by_cases h33 : s[n] = 33
    · have hb : ((s[n].toNat : Int) == 33) = true := byte_k _ 33 (by decide) true (by rw [h33]; rfl)
      have hb40 : ((s[n].toNat : Int) == 40) = false := byte_k _ 40 (by decide) false (by rw [h33]; rfl)
      have hb91 : ((s[n].toNat : Int) == 91) = false := byte_k _ 91 (by decide) false (by rw [h33]; rfl)
      cases P with
      | true =>
        have HG := Lib.hid (show F = (4, S) from by rw [hF]; simp [h33])
        clear hF ho h33
        go_enter Tryd.func71, Tryd.ntmps71
        go_wp2_with (first
          | (go_at_call 63; (with_reducible refine (HW.out _).mono ?_); rintro e w' ⟨rfl, rfl⟩)
          | (go_at_call 93; (with_reducible refine (HC.out _).mono ?_); rintro e w' ⟨rfl, rfl⟩)
          | (go_at_call 78; (with_reducible refine (HP.out _).mono ?_); rintro e w' ⟨rfl, rfl⟩)
          | (go_at_call 66; (with_reducible refine HS.out.mono ?_); rintro e w' ⟨rfl, hbb⟩; have HB := Lib.hid hbb; clear hbb)
          | (go_at_call 94; (with_reducible refine (HBR.out _).mono ?_); rintro e w' ⟨rfl, rfl⟩)
          | (go_at_call 89; (with_reducible refine HA.out.mono ?_); rintro e w' ⟨rfl, hbb⟩; have HB := Lib.hid hbb; clear hbb))
        go_ret2
        exact ⟨ret_pair (by rw [HG.out] <;> rfl) (by rw [HG.out] <;> rfl), HB.out⟩
      | false =>
        by_cases hA : 0 < A
        · have hA2 := hal hA
          have HG := Lib.hid (show F = (4, A) from by rw [hF]; simp [h33, hA])
          clear hF ho h33
          go_enter Tryd.func71, Tryd.ntmps71
          go_wp2_with (first
            | (go_at_call 63; (with_reducible refine (HW.out _).mono ?_); rintro e w' ⟨rfl, rfl⟩)
            | (go_at_call 93; (with_reducible refine (HC.out _).mono ?_); rintro e w' ⟨rfl, rfl⟩)
            | (go_at_call 78; (with_reducible refine (HP.out _).mono ?_); rintro e w' ⟨rfl, rfl⟩)
            | (go_at_call 66; (with_reducible refine HS.out.mono ?_); rintro e w' ⟨rfl, hbb⟩; have HB := Lib.hid hbb; clear hbb)
            | (go_at_call 94; (with_reducible refine (HBR.out _).mono ?_); rintro e w' ⟨rfl, rfl⟩)
            | (go_at_call 89; (with_reducible refine HA.out.mono ?_); rintro e w' ⟨rfl, hbb⟩; have HB := Lib.hid hbb; clear hbb))
          go_ret2
          exact ⟨ret_pair (by rw [HG.out] <;> rfl) (by rw [HG.out] <;> rfl), HB.out⟩
        · cases d with
          | true =>
            have HG := Lib.hid (show F = (5, 0) from by rw [hF]; simp [h33, hA])
            clear hF ho h33
            go_enter Tryd.func71, Tryd.ntmps71
            go_wp2_with (first
              | (go_at_call 63; (with_reducible refine (HW.out _).mono ?_); rintro e w' ⟨rfl, rfl⟩)
              | (go_at_call 93; (with_reducible refine (HC.out _).mono ?_); rintro e w' ⟨rfl, rfl⟩)
              | (go_at_call 78; (with_reducible refine (HP.out _).mono ?_); rintro e w' ⟨rfl, rfl⟩)
              | (go_at_call 66; (with_reducible refine HS.out.mono ?_); rintro e w' ⟨rfl, hbb⟩; have HB := Lib.hid hbb; clear hbb)
              | (go_at_call 94; (with_reducible refine (HBR.out _).mono ?_); rintro e w' ⟨rfl, rfl⟩)
              | (go_at_call 89; (with_reducible refine HA.out.mono ?_); rintro e w' ⟨rfl, hbb⟩; have HB := Lib.hid hbb; clear hbb))
            go_ret2
            exact ⟨ret_pair (by rw [HG.out] <;> rfl) (by rw [HG.out] <;> rfl), HB.out⟩
          | false =>
            have HG := Lib.hid (show F = (5, n) from by rw [hF]; simp [h33, hA])
            clear hF ho h33
            go_enter Tryd.func71, Tryd.ntmps71
            go_wp2_with (first
              | (go_at_call 63; (with_reducible refine (HW.out _).mono ?_); rintro e w' ⟨rfl, rfl⟩)
              | (go_at_call 93; (with_reducible refine (HC.out _).mono ?_); rintro e w' ⟨rfl, rfl⟩)
              | (go_at_call 78; (with_reducible refine (HP.out _).mono ?_); rintro e w' ⟨rfl, rfl⟩)
              | (go_at_call 66; (with_reducible refine HS.out.mono ?_); rintro e w' ⟨rfl, hbb⟩; have HB := Lib.hid hbb; clear hbb)
              | (go_at_call 94; (with_reducible refine (HBR.out _).mono ?_); rintro e w' ⟨rfl, rfl⟩)
              | (go_at_call 89; (with_reducible refine HA.out.mono ?_); rintro e w' ⟨rfl, hbb⟩; have HB := Lib.hid hbb; clear hbb))
            go_ret2
            exact ⟨ret_pair (by rw [HG.out] <;> rfl) (by rw [HG.out] <;> rfl), HB.out⟩
    · have hb33 : ((s[n].toNat : Int) == 33) = false := byte_k _ 33 (by decide) false (by rw [beq_eq_false_iff_ne]; exact h33)
      by_cases h40 : s[n] = 40
      · have hb : ((s[n].toNat : Int) == 40) = true := byte_k _ 40 (by decide) true (by rw [h40]; rfl)
        have hb91 : ((s[n].toNat : Int) == 91) = false := byte_k _ 91 (by decide) false (by rw [h40]; rfl)
        cases d with
        | false =>
          have HG := Lib.hid (show F = (6, n) from by rw [hF]; simp [h40])
          clear hF ho h33 h40
          go_enter Tryd.func71, Tryd.ntmps71
          go_wp2_with (first
            | (go_at_call 63; (with_reducible refine (HW.out _).mono ?_); rintro e w' ⟨rfl, rfl⟩)
            | (go_at_call 93; (with_reducible refine (HC.out _).mono ?_); rintro e w' ⟨rfl, rfl⟩)
            | (go_at_call 78; (with_reducible refine (HP.out _).mono ?_); rintro e w' ⟨rfl, rfl⟩)
            | (go_at_call 66; (with_reducible refine HS.out.mono ?_); rintro e w' ⟨rfl, hbb⟩; have HB := Lib.hid hbb; clear hbb)
            | (go_at_call 94; (with_reducible refine (HBR.out _).mono ?_); rintro e w' ⟨rfl, rfl⟩)
            | (go_at_call 89; (with_reducible refine HA.out.mono ?_); rintro e w' ⟨rfl, hbb⟩; have HB := Lib.hid hbb; clear hbb))
          go_ret2
          exact ⟨ret_pair (by rw [HG.out] <;> rfl) (by rw [HG.out] <;> rfl), Below.refl _ _⟩
        | true =>
          by_cases hA : 0 < A
          · have hA2 := hal hA
            have HG := Lib.hid (show F = (4, A) from by rw [hF]; simp [h40, hA])
            clear hF ho h33 h40
            go_enter Tryd.func71, Tryd.ntmps71
            go_wp2_with (first
              | (go_at_call 63; (with_reducible refine (HW.out _).mono ?_); rintro e w' ⟨rfl, rfl⟩)
              | (go_at_call 93; (with_reducible refine (HC.out _).mono ?_); rintro e w' ⟨rfl, rfl⟩)
              | (go_at_call 78; (with_reducible refine (HP.out _).mono ?_); rintro e w' ⟨rfl, rfl⟩)
              | (go_at_call 66; (with_reducible refine HS.out.mono ?_); rintro e w' ⟨rfl, hbb⟩; have HB := Lib.hid hbb; clear hbb)
              | (go_at_call 94; (with_reducible refine (HBR.out _).mono ?_); rintro e w' ⟨rfl, rfl⟩)
              | (go_at_call 89; (with_reducible refine HA.out.mono ?_); rintro e w' ⟨rfl, hbb⟩; have HB := Lib.hid hbb; clear hbb))
            go_ret2
            exact ⟨ret_pair (by rw [HG.out] <;> rfl) (by rw [HG.out] <;> rfl), HB.out⟩
          · have HG := Lib.hid (show F = (5, 0) from by rw [hF]; simp [h40, hA])
            clear hF ho h33 h40
            go_enter Tryd.func71, Tryd.ntmps71
            go_wp2_with (first
              | (go_at_call 63; (with_reducible refine (HW.out _).mono ?_); rintro e w' ⟨rfl, rfl⟩)
              | (go_at_call 93; (with_reducible refine (HC.out _).mono ?_); rintro e w' ⟨rfl, rfl⟩)
              | (go_at_call 78; (with_reducible refine (HP.out _).mono ?_); rintro e w' ⟨rfl, rfl⟩)
              | (go_at_call 66; (with_reducible refine HS.out.mono ?_); rintro e w' ⟨rfl, hbb⟩; have HB := Lib.hid hbb; clear hbb)
              | (go_at_call 94; (with_reducible refine (HBR.out _).mono ?_); rintro e w' ⟨rfl, rfl⟩)
              | (go_at_call 89; (with_reducible refine HA.out.mono ?_); rintro e w' ⟨rfl, hbb⟩; have HB := Lib.hid hbb; clear hbb))
            go_ret2
            exact ⟨ret_pair (by rw [HG.out] <;> rfl) (by rw [HG.out] <;> rfl), HB.out⟩
      · have hb40 : ((s[n].toNat : Int) == 40) = false := byte_k _ 40 (by decide) false (by rw [beq_eq_false_iff_ne]; exact h40)
        by_cases h91 : s[n] = 91
        · have hb : ((s[n].toNat : Int) == 91) = true := byte_k _ 91 (by decide) true (by rw [h91]; rfl)
          cases d with
          | false =>
            by_cases hB : 0 < B
            · have hB2 := hbl hB
              have HG := Lib.hid (show F = (7, n + B) from by rw [hF]; simp [h91, Fs.bump, Nat.ne_of_gt hB]; omega)
              clear hF ho h33 h40 h91 hbl
              go_enter Tryd.func71, Tryd.ntmps71
              go_wp2_with (first
                | (go_at_call 63; (with_reducible refine (HW.out _).mono ?_); rintro e w' ⟨rfl, rfl⟩)
                | (go_at_call 93; (with_reducible refine (HC.out _).mono ?_); rintro e w' ⟨rfl, rfl⟩)
                | (go_at_call 78; (with_reducible refine (HP.out _).mono ?_); rintro e w' ⟨rfl, rfl⟩)
                | (go_at_call 66; (with_reducible refine HS.out.mono ?_); rintro e w' ⟨rfl, hbb⟩; have HB := Lib.hid hbb; clear hbb)
                | (go_at_call 94; (with_reducible refine (HBR.out _).mono ?_); rintro e w' ⟨rfl, rfl⟩)
                | (go_at_call 89; (with_reducible refine HA.out.mono ?_); rintro e w' ⟨rfl, hbb⟩; have HB := Lib.hid hbb; clear hbb))
              go_ret2
              exact ⟨ret_pair (by rw [HG.out] <;> rfl) (by rw [HG.out]; push_cast; rfl), Below.refl _ _⟩
            · have HG := Lib.hid (show F = (7, 0) from by rw [hF]; simp [h91, Fs.bump, show B = 0 by omega])
              clear hF ho h33 h40 h91 hbl
              go_enter Tryd.func71, Tryd.ntmps71
              go_wp2_with (first
                | (go_at_call 63; (with_reducible refine (HW.out _).mono ?_); rintro e w' ⟨rfl, rfl⟩)
                | (go_at_call 93; (with_reducible refine (HC.out _).mono ?_); rintro e w' ⟨rfl, rfl⟩)
                | (go_at_call 78; (with_reducible refine (HP.out _).mono ?_); rintro e w' ⟨rfl, rfl⟩)
                | (go_at_call 66; (with_reducible refine HS.out.mono ?_); rintro e w' ⟨rfl, hbb⟩; have HB := Lib.hid hbb; clear hbb)
                | (go_at_call 94; (with_reducible refine (HBR.out _).mono ?_); rintro e w' ⟨rfl, rfl⟩)
                | (go_at_call 89; (with_reducible refine HA.out.mono ?_); rintro e w' ⟨rfl, hbb⟩; have HB := Lib.hid hbb; clear hbb))
              go_ret2
              exact ⟨ret_pair (by rw [HG.out] <;> rfl) (by rw [HG.out] <;> rfl), Below.refl _ _⟩
          | true =>
            by_cases hA : 0 < A
            · have hA2 := hal hA
              have HG := Lib.hid (show F = (4, A) from by rw [hF]; simp [h91, hA])
              clear hF ho h33 h40 h91
              go_enter Tryd.func71, Tryd.ntmps71
              go_wp2_with (first
                | (go_at_call 63; (with_reducible refine (HW.out _).mono ?_); rintro e w' ⟨rfl, rfl⟩)
                | (go_at_call 93; (with_reducible refine (HC.out _).mono ?_); rintro e w' ⟨rfl, rfl⟩)
                | (go_at_call 78; (with_reducible refine (HP.out _).mono ?_); rintro e w' ⟨rfl, rfl⟩)
                | (go_at_call 66; (with_reducible refine HS.out.mono ?_); rintro e w' ⟨rfl, hbb⟩; have HB := Lib.hid hbb; clear hbb)
                | (go_at_call 94; (with_reducible refine (HBR.out _).mono ?_); rintro e w' ⟨rfl, rfl⟩)
                | (go_at_call 89; (with_reducible refine HA.out.mono ?_); rintro e w' ⟨rfl, hbb⟩; have HB := Lib.hid hbb; clear hbb))
              go_ret2
              exact ⟨ret_pair (by rw [HG.out] <;> rfl) (by rw [HG.out] <;> rfl), HB.out⟩
            · have HG := Lib.hid (show F = (5, 0) from by rw [hF]; simp [h91, hA])
              clear hF ho h33 h40 h91
              go_enter Tryd.func71, Tryd.ntmps71
              go_wp2_with (first
                | (go_at_call 63; (with_reducible refine (HW.out _).mono ?_); rintro e w' ⟨rfl, rfl⟩)
                | (go_at_call 93; (with_reducible refine (HC.out _).mono ?_); rintro e w' ⟨rfl, rfl⟩)
                | (go_at_call 78; (with_reducible refine (HP.out _).mono ?_); rintro e w' ⟨rfl, rfl⟩)
                | (go_at_call 66; (with_reducible refine HS.out.mono ?_); rintro e w' ⟨rfl, hbb⟩; have HB := Lib.hid hbb; clear hbb)
                | (go_at_call 94; (with_reducible refine (HBR.out _).mono ?_); rintro e w' ⟨rfl, rfl⟩)
                | (go_at_call 89; (with_reducible refine HA.out.mono ?_); rintro e w' ⟨rfl, hbb⟩; have HB := Lib.hid hbb; clear hbb))
              go_ret2
              exact ⟨ret_pair (by rw [HG.out] <;> rfl) (by rw [HG.out] <;> rfl), HB.out⟩
        · have hb91 : ((s[n].toNat : Int) == 91) = false := byte_k _ 91 (by decide) false (by rw [beq_eq_false_iff_ne]; exact h91)
          by_cases hA : 0 < A
          · have hA2 := hal hA
            have HG := Lib.hid (show F = (4, A) from by rw [hF]; simp [h33, h40, h91, hA])
            clear hF ho h33 h40 h91
            go_enter Tryd.func71, Tryd.ntmps71
            go_wp2_with (first
              | (go_at_call 63; (with_reducible refine (HW.out _).mono ?_); rintro e w' ⟨rfl, rfl⟩)
              | (go_at_call 93; (with_reducible refine (HC.out _).mono ?_); rintro e w' ⟨rfl, rfl⟩)
              | (go_at_call 78; (with_reducible refine (HP.out _).mono ?_); rintro e w' ⟨rfl, rfl⟩)
              | (go_at_call 66; (with_reducible refine HS.out.mono ?_); rintro e w' ⟨rfl, hbb⟩; have HB := Lib.hid hbb; clear hbb)
              | (go_at_call 94; (with_reducible refine (HBR.out _).mono ?_); rintro e w' ⟨rfl, rfl⟩)
              | (go_at_call 89; (with_reducible refine HA.out.mono ?_); rintro e w' ⟨rfl, hbb⟩; have HB := Lib.hid hbb; clear hbb))
            go_ret2
            exact ⟨ret_pair (by rw [HG.out] <;> rfl) (by rw [HG.out] <;> rfl), HB.out⟩
          · cases d with
            | true =>
              have HG := Lib.hid (show F = (5, 0) from by rw [hF]; simp [h33, h40, h91, hA])
              clear hF ho h33 h40 h91
              go_enter Tryd.func71, Tryd.ntmps71
              go_wp2_with (first
                | (go_at_call 63; (with_reducible refine (HW.out _).mono ?_); rintro e w' ⟨rfl, rfl⟩)
                | (go_at_call 93; (with_reducible refine (HC.out _).mono ?_); rintro e w' ⟨rfl, rfl⟩)
                | (go_at_call 78; (with_reducible refine (HP.out _).mono ?_); rintro e w' ⟨rfl, rfl⟩)
                | (go_at_call 66; (with_reducible refine HS.out.mono ?_); rintro e w' ⟨rfl, hbb⟩; have HB := Lib.hid hbb; clear hbb)
                | (go_at_call 94; (with_reducible refine (HBR.out _).mono ?_); rintro e w' ⟨rfl, rfl⟩)
                | (go_at_call 89; (with_reducible refine HA.out.mono ?_); rintro e w' ⟨rfl, hbb⟩; have HB := Lib.hid hbb; clear hbb))
              go_ret2
              exact ⟨ret_pair (by rw [HG.out] <;> rfl) (by rw [HG.out] <;> rfl), HB.out⟩
            | false =>
              have HG := Lib.hid (show F = (5, n) from by rw [hF]; simp [h33, h40, h91, hA])
              clear hF ho h33 h40 h91
              go_enter Tryd.func71, Tryd.ntmps71
              go_wp2_with (first
                | (go_at_call 63; (with_reducible refine (HW.out _).mono ?_); rintro e w' ⟨rfl, rfl⟩)
                | (go_at_call 93; (with_reducible refine (HC.out _).mono ?_); rintro e w' ⟨rfl, rfl⟩)
                | (go_at_call 78; (with_reducible refine (HP.out _).mono ?_); rintro e w' ⟨rfl, rfl⟩)
                | (go_at_call 66; (with_reducible refine HS.out.mono ?_); rintro e w' ⟨rfl, hbb⟩; have HB := Lib.hid hbb; clear hbb)
                | (go_at_call 94; (with_reducible refine (HBR.out _).mono ?_); rintro e w' ⟨rfl, rfl⟩)
                | (go_at_call 89; (with_reducible refine HA.out.mono ?_); rintro e w' ⟨rfl, hbb⟩; have HB := Lib.hid hbb; clear hbb))
              go_ret2
              exact ⟨ret_pair (by rw [HG.out] <;> rfl) (by rw [HG.out] <;> rfl), HB.out⟩
end Go.Proofs.YtjgojbkmeggmhaaDoor
