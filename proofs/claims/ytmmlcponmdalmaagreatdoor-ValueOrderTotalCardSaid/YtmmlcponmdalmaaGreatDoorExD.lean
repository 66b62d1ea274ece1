/- The contract of exact's decimal. -/
import Derived.Test.YtmmlcponmdalmaaGreatDoorExU
import Derived.Deep.QuietTactic
import Derived.BigQuiet
namespace Go.Proofs.YtmmlcponmdalmaaGreatDoor
open Go.RowKit
namespace Nt
def pad (p : Nat) (l : List UInt8) : List UInt8 := List.replicate (p + 1 - l.length) 48 ++ l
def dotted (p : Nat) (P : List UInt8) : List UInt8 := if p = 0 then P else P.take (P.length - p) ++ 46 :: P.drop (P.length - p)
/-- The text of q units of 10^-p. -/
def decT (m : Bool) (q p : Nat) : List UInt8 := sgn (m && decide (q ≠ 0)) ++ dotted p (pad p (Lib.decDigits q))
theorem pad_len (p : Nat) (l : List UInt8) : p + 1 ≤ (pad p l).length := by
  unfold pad
  rw [List.length_append, List.length_replicate]
  omega
end Nt
theorem ba_len' (s : ByteArray) : s.data.toList.length = s.size := rfl

set_option maxRecDepth 100000 in
set_option maxHeartbeats 4000000 in
theorem decimal_any (m : Bool) (q p : Nat) (A1 : Option Addr) (c1 : Nat) (v3 : Value) (w : World) (h : Nv w (.slice A1 (Nt.digs q).length c1) (Nt.digs q)) (hp : p ≤ 900) (hl : (Lib.decDigits q).length ≤ 3000) (htab : Lib.TabIs Tryz.prog w "internal/strconv.uint64pow10" .u64 Lib.pow10Tab) :
    Calls Tryz.prog 53 #[.agg #[.bool m, .slice A1 (Nt.digs q).length c1, v3], .int .i64 (p : Int)] w fun e w' => ∃ t : ByteArray, e = .returned (.string t) ∧ t.data.toList = Nt.decT m q p ∧ Below w.heap.size w w' := by
  have HB0 := Lib.hid ((Below.refl _ w).alloc (Nat.le_refl _) (.cells #[.bool m, .slice A1 (Nt.digs q).length c1, v3] 89))
  have HT := Lib.hid (show ∀ W, Below w.heap.size w W → Lib.TabIs Tryz.prog W "internal/strconv.uint64pow10" .u64 Lib.pow10Tab from Lib.tabBelow_of_tabIs htab)
  have HN := Lib.hid h
  have HTX := Lib.hid fun W (hW : Below w.heap.size w W) (h : Nv W (.slice A1 (Nt.digs q).length c1) (Nt.digs q)) => text_s (.slice A1 (Nt.digs q).length c1) q W h (HT.out W hW)
  have HRP := Lib.hid (show ∀ (n : Nat) (z : Int) W, z = (n : Int) → n ≤ 1000 → Calls Tryz.prog 108 #[.string ⟨#[48]⟩, .int .i64 z] W fun e w' => ∃ t : ByteArray, e = .returned (.string t) ∧ t.data.toList = List.replicate n 48 ∧ Below W.heap.size W w' from fun n z W e hn => by
    subst e
    refine (Tryz.strings_Repeat ⟨#[48]⟩ n W (by omega) (by show 1 * n ≤ _; omega)).mono ?_
    rintro e w' ⟨rfl, hb⟩
    exact ⟨_, rfl, by rw [← repeatL_one], hb⟩)
  have HD := Lib.hid (show Nt.decT m q p = Nt.sgn (m && decide (q ≠ 0)) ++ Nt.dotted p (Nt.pad p (Lib.decDigits q)) from rfl)
  have hl1 : 1 ≤ (Lib.decDigits q).length := by
    have : (Lib.decDigits q).length ≠ 0 := fun e => Nt.dd_ne q (List.eq_nil_of_length_eq_zero e)
    omega
  clear h htab
  generalize hD : Lib.decDigits q = D at *
  have hp' : (p : Int) ≤ 900 := by omega
  have hpl := Nt.pad_len p D
  by_cases hpd : p + 1 ≤ D.length
  · go_enter Tryz.func53, Tryz.ntmps53
    go_upto_region 3 with (first
      | (go_at_call 109; (with_reducible refine (HTX.out _ HB0.out (HN.out.below HB0.out)).mono ?_); rintro e w1 ⟨t0, rfl, ht, hb⟩; have lt0 : t0.size = D.length := (by rw [← ht]; rfl); have b1 : D.length ≤ (t0.size : Int) := (by omega); have b2 : (t0.size : Int) ≤ D.length := (by omega); have HT0 := Lib.hid ht; have HLT := Lib.hid lt0; have HB1 := Lib.hid (below_tr HB0.out hb); have hbk := ((Blk.new w 89 #[.bool m, .slice A1 (Nt.digs q).length c1, v3]).later hb); have HBK := Lib.hid hbk; clear ht hb lt0 hbk)
      | (go_at_call 108; (with_reducible refine (HRP.out (0) _ _ ?e1 ?e2).mono ?_); (case e1 => omega); (case e2 => omega); rintro e w2 ⟨t1, rfl, ht, hb⟩; have HT1 := Lib.hid ht; have lt1 : t1.size = 0 := (by rw [← ba_len', ht, List.length_replicate]); have b3 : (t1.size : Int) ≤ 1000 := (by omega); have HLT1 := Lib.hid lt1; have HB2 := Lib.hid (HB1.out.trans (hb.mono HB1.out.size)); have hbk := HBK.out.later hb; obtain ⟨x0, x1, -, -, -, -⟩ := hbk.three; clear ht hb hbk lt1))
    obtain ⟨s1, hs1⟩ : ∃ s1, s1 = t1 ++ t0 := ⟨_, rfl⟩
    rw [← hs1]
    have hsl : s1.data.toList = Nt.pad p D := by
      rw [hs1, ByteArray.toList_data_append, HT0.out, HT1.out, Nt.pad, show p + 1 - D.length = 0 from by omega]
    have hss : s1.size = (Nt.pad p D).length := by rw [← hsl]; rfl
    have HSL := Lib.hid hsl
    have hs0 : (p : Int) + 1 ≤ s1.size := by omega
    have hs9 : (s1.size : Int) ≤ 5000 := by
      have h1 := HLT.out
      have h2 := HLT1.out
      rw [hs1, ByteArray.size_append]
      omega
    have HSS := Lib.hid hss
    clear hs1 hsl hss b1 b2 b3
    have hz : (q = 0 ∧ (((Nt.digs q).length : Int) == 0) = true) ∨ (q ≠ 0 ∧ (((Nt.digs q).length : Int) == 0) = false) := by
      rcases Nat.eq_zero_or_pos q with h0 | h0
      · subst h0; exact .inl ⟨rfl, by rw [Nt.digs_zero]; rfl⟩
      · exact .inr ⟨by omega, by rw [Nt.digs_pos (by omega)]; simp; omega⟩
    by_cases hp0 : p = 0
    · subst hp0
      have HDT := Lib.hid (show Nt.dotted 0 (Nt.pad 0 D) = s1.data.toList from by rw [HSL.out]; rfl)
      rcases hz with ⟨hq0, hz⟩ | ⟨hq0, hz⟩ <;> cases m
      all_goals
        have HQ0 := Lib.hid hq0
        clear hq0 hpd hpl
        go_wp2_with (go_at_call 49; refine (zero_any _ _ _ _).mono ?_; rintro e w0 ⟨rfl, rfl⟩)
        go_ret
        exact ⟨_, rfl, by rw [HD.out, HDT.out]; simp [Nt.sgn, HQ0.out], HB2.out⟩
    · have HDT := Lib.hid (show Nt.dotted p (Nt.pad p D) = (s1.extract 0 (s1.size - p)).data.toList ++ 46 :: (s1.extract (s1.size - p) s1.size).data.toList from by
        rw [Nt.dotted, if_neg hp0, Lib.extract_data, Lib.extract_data, HSL.out, HSS.out]
        simp
        exact (List.take_of_length_le (by simp)).symm)
      have g1 : (0 : Int) < p := by omega
      have g2 : (0 : Int) ≤ (s1.size : Int) - p := by omega
      have g3 : ((s1.size : Int) - p) ≤ s1.size := by omega
      have g4 : ((s1.size : Int) - p).toNat = s1.size - p := by omega
      have g5 : IntKind.i64.wrap ((s1.size : Int) - p) = (s1.size : Int) - p := IntWalk.i64_in _ (by omega)
      have HG := Lib.hid g5
      have HG4 := Lib.hid g4
      have g6 : (s1.extract 0 (s1.size - p)).size = s1.size - p := by rw [ByteArray.size_extract]; omega
      have g7 : (s1.extract (s1.size - p) s1.size).size = p := by rw [ByteArray.size_extract]; omega
      have HG6 := Lib.hid g6
      have HG7 := Lib.hid g7
      clear g4 g5 g6 g7 hpd hpl
      go_upto_region 4 with fail
      have g5 := HG.out
      have g4 := HG4.out
      go_quiet (fail)
      clear g4 g5
      obtain ⟨s2, hs2⟩ : ∃ s2, s2 = s1.extract 0 (s1.size - p) ++ ⟨#[46]⟩ ++ s1.extract (s1.size - p) s1.size := ⟨_, rfl⟩
      rw [← hs2]
      have hl2 : s2.data.toList = Nt.dotted p (Nt.pad p D) := by
        rw [HDT.out, hs2, ByteArray.toList_data_append, ByteArray.toList_data_append]
        simp
      have hs3 : (s2.size : Int) ≤ 6000 := by
        have h1 := HG6.out
        have h2 := HG7.out
        rw [hs2, ByteArray.size_append, ByteArray.size_append, h1, h2]
        have : (⟨#[46]⟩ : ByteArray).size = 1 := rfl
        omega
      have HL2 := Lib.hid hl2
      clear hs2 hl2
      rcases hz with ⟨hq0, hz⟩ | ⟨hq0, hz⟩ <;> cases m
      all_goals
        have HQ0 := Lib.hid hq0
        clear hq0
        go_wp2_with (go_at_call 49; refine (zero_any _ _ _ _).mono ?_; rintro e w0 ⟨rfl, rfl⟩)
        go_ret
        exact ⟨_, rfl, by rw [HD.out]; simp [Nt.sgn, HQ0.out, HL2.out], below_drewN HB2.out _⟩
  · go_enter Tryz.func53, Tryz.ntmps53
    go_upto_region 3 with (first
      | (go_at_call 109; (with_reducible refine (HTX.out _ HB0.out (HN.out.below HB0.out)).mono ?_); rintro e w1 ⟨t0, rfl, ht, hb⟩; have lt0 : t0.size = D.length := (by rw [← ht]; rfl); have b1 : D.length ≤ (t0.size : Int) := (by omega); have b2 : (t0.size : Int) ≤ D.length := (by omega); have HT0 := Lib.hid ht; have HLT := Lib.hid lt0; have HB1 := Lib.hid (below_tr HB0.out hb); have hbk := ((Blk.new w 89 #[.bool m, .slice A1 (Nt.digs q).length c1, v3]).later hb); have HBK := Lib.hid hbk; clear ht hb lt0 hbk)
      | (go_at_call 108; (with_reducible refine (HRP.out (p + 1 - D.length) _ _ ?e1 ?e2).mono ?_); (case e1 => omega); (case e2 => omega); rintro e w2 ⟨t1, rfl, ht, hb⟩; have HT1 := Lib.hid ht; have lt1 : t1.size = p + 1 - D.length := (by rw [← ba_len', ht, List.length_replicate]); have b3 : (t1.size : Int) ≤ 1000 := (by omega); have HLT1 := Lib.hid lt1; have HB2 := Lib.hid (HB1.out.trans (hb.mono HB1.out.size)); have hbk := HBK.out.later hb; obtain ⟨x0, x1, -, -, -, -⟩ := hbk.three; clear ht hb hbk lt1))
    obtain ⟨s1, hs1⟩ : ∃ s1, s1 = t1 ++ t0 := ⟨_, rfl⟩
    rw [← hs1]
    have hsl : s1.data.toList = Nt.pad p D := by
      rw [hs1, ByteArray.toList_data_append, HT0.out, HT1.out, Nt.pad, show p + 1 - D.length = p + 1 - D.length from by omega]
    have hss : s1.size = (Nt.pad p D).length := by rw [← hsl]; rfl
    have HSL := Lib.hid hsl
    have hs0 : (p : Int) + 1 ≤ s1.size := by omega
    have hs9 : (s1.size : Int) ≤ 5000 := by
      have h1 := HLT.out
      have h2 := HLT1.out
      rw [hs1, ByteArray.size_append]
      omega
    have HSS := Lib.hid hss
    clear hs1 hsl hss b1 b2 b3
    have hz : (q = 0 ∧ (((Nt.digs q).length : Int) == 0) = true) ∨ (q ≠ 0 ∧ (((Nt.digs q).length : Int) == 0) = false) := by
      rcases Nat.eq_zero_or_pos q with h0 | h0
      · subst h0; exact .inl ⟨rfl, by rw [Nt.digs_zero]; rfl⟩
      · exact .inr ⟨by omega, by rw [Nt.digs_pos (by omega)]; simp; omega⟩
    by_cases hp0 : p = 0
    · subst hp0
      have HDT := Lib.hid (show Nt.dotted 0 (Nt.pad 0 D) = s1.data.toList from by rw [HSL.out]; rfl)
      rcases hz with ⟨hq0, hz⟩ | ⟨hq0, hz⟩ <;> cases m
      all_goals
        have HQ0 := Lib.hid hq0
        clear hq0 hpd hpl
        go_wp2_with (go_at_call 49; refine (zero_any _ _ _ _).mono ?_; rintro e w0 ⟨rfl, rfl⟩)
        go_ret
        exact ⟨_, rfl, by rw [HD.out, HDT.out]; simp [Nt.sgn, HQ0.out], HB2.out⟩
    · have HDT := Lib.hid (show Nt.dotted p (Nt.pad p D) = (s1.extract 0 (s1.size - p)).data.toList ++ 46 :: (s1.extract (s1.size - p) s1.size).data.toList from by
        rw [Nt.dotted, if_neg hp0, Lib.extract_data, Lib.extract_data, HSL.out, HSS.out]
        simp
        exact (List.take_of_length_le (by simp)).symm)
      have g1 : (0 : Int) < p := by omega
      have g2 : (0 : Int) ≤ (s1.size : Int) - p := by omega
      have g3 : ((s1.size : Int) - p) ≤ s1.size := by omega
      have g4 : ((s1.size : Int) - p).toNat = s1.size - p := by omega
      have g5 : IntKind.i64.wrap ((s1.size : Int) - p) = (s1.size : Int) - p := IntWalk.i64_in _ (by omega)
      have HG := Lib.hid g5
      have HG4 := Lib.hid g4
      have g6 : (s1.extract 0 (s1.size - p)).size = s1.size - p := by rw [ByteArray.size_extract]; omega
      have g7 : (s1.extract (s1.size - p) s1.size).size = p := by rw [ByteArray.size_extract]; omega
      have HG6 := Lib.hid g6
      have HG7 := Lib.hid g7
      clear g4 g5 g6 g7 hpd hpl
      go_upto_region 4 with fail
      have g5 := HG.out
      have g4 := HG4.out
      go_quiet (fail)
      clear g4 g5
      obtain ⟨s2, hs2⟩ : ∃ s2, s2 = s1.extract 0 (s1.size - p) ++ ⟨#[46]⟩ ++ s1.extract (s1.size - p) s1.size := ⟨_, rfl⟩
      rw [← hs2]
      have hl2 : s2.data.toList = Nt.dotted p (Nt.pad p D) := by
        rw [HDT.out, hs2, ByteArray.toList_data_append, ByteArray.toList_data_append]
        simp
      have hs3 : (s2.size : Int) ≤ 6000 := by
        have h1 := HG6.out
        have h2 := HG7.out
        rw [hs2, ByteArray.size_append, ByteArray.size_append, h1, h2]
        have : (⟨#[46]⟩ : ByteArray).size = 1 := rfl
        omega
      have HL2 := Lib.hid hl2
      clear hs2 hl2
      rcases hz with ⟨hq0, hz⟩ | ⟨hq0, hz⟩ <;> cases m
      all_goals
        have HQ0 := Lib.hid hq0
        clear hq0
        go_wp2_with (go_at_call 49; refine (zero_any _ _ _ _).mono ?_; rintro e w0 ⟨rfl, rfl⟩)
        go_ret
        exact ⟨_, rfl, by rw [HD.out]; simp [Nt.sgn, HQ0.out, HL2.out], below_drewN HB2.out _⟩
end Go.Proofs.YtmmlcponmdalmaaGreatDoor
