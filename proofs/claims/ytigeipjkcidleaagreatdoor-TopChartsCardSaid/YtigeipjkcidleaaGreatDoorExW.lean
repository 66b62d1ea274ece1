/- The contract of exact's write, where the reduced number fits. -/
import Derived.Test.YtigeipjkcidleaaGreatDoorExR
namespace Go.Proofs.YtigeipjkcidleaaGreatDoor
open Go.RowKit

namespace Nt
/-- The text of the numerator, and of the denominator, of the reduced fraction. -/
def numT (m : Bool) (n d : Nat) : List UInt8 := if n = 0 then [48] else sgn m ++ Lib.decDigits (n / Nat.gcd n d)
def denT (n d : Nat) : List UInt8 := if n = 0 then [49] else Lib.decDigits (d / Nat.gcd n d)
end Nt
def WriteRet (m : Bool) (n d : Nat) (w : World) (e : Ending) (w' : World) : Prop := Below w.heap.size w w' ∧ ∃ sn sd : ByteArray, e = .returned (.tuple #[.agg #[.string sn, .string sd], .int .i64 0]) ∧ sn.data.toList = Nt.numT m n d ∧ sd.data.toList = Nt.denT n d

theorem divide_n (va vb : Value) (a b : Nat) (w : World) (ha : Nv w va (Nt.digs a)) (hb : Nv w vb (Nt.digs b)) (sa : (Nt.digs a).length ≤ 900000) (sb : (Nt.digs b).length ≤ 900000) (h0 : b ≠ 0) :
    Calls Tryz.prog 131 #[va, vb] w fun e w' => ∃ v1 v2, e = .returned (.tuple #[v1, v2]) ∧ Nv w' v1 (Nt.digs (a / b)) ∧ Nv w' v2 (Nt.digs (a % b)) ∧ Below w.heap.size w w' := by
  have := divide_any va vb _ _ w ha hb (Nt.digs_canon a) (Nt.digs_canon b) sa sb (by rw [Nt.val_digs]; omega)
  rwa [Nt.val_digs, Nt.val_digs] at this
/-- The text, as a string of its own. -/
theorem text_s (v : Value) (n : Nat) (w : World) (h : Nv w v (Nt.digs n)) (htab : Lib.TabIs Tryz.prog w "internal/strconv.uint64pow10" .u64 Lib.pow10Tab) :
    Calls Tryz.prog 132 #[v] w fun e w' => ∃ t : ByteArray, e = .returned (.string t) ∧ t.data.toList = Lib.decDigits n ∧ Below w.heap.size w w' := by
  refine (text_n v n w h htab).mono ?_
  rintro e w' ⟨rfl, hb⟩
  exact ⟨_, rfl, rfl, hb⟩
theorem digs_mono {a b : Nat} (h : a ≤ b) : (Nt.digs a).length ≤ (Nt.digs b).length := by
  have h1 := Nt.val_lt (Nt.digs_canon b).1
  rw [Nt.val_digs] at h1
  exact Nt.digs_len (Nat.lt_of_le_of_lt h h1)

set_option maxRecDepth 100000 in
set_option maxHeartbeats 4000000 in
theorem write_any (x : Value) (m : Bool) (n d : Nat) (w : World) (h : Nm w x m n d) (hd : d ≠ 0) (s1 : (Nt.digs n).length ≤ 900000) (s2 : (Nt.digs d).length ≤ 900000)
    (f1 : (Lib.decDigits (n / Nat.gcd n d)).length ≤ 300) (f2 : (Lib.decDigits (d / Nat.gcd n d)).length ≤ 300) (htab : Lib.TabIs Tryz.prog w "internal/strconv.uint64pow10" .u64 Lib.pow10Tab) :
    Calls Tryz.prog 76 #[x] w (WriteRet m n d w) := by
  obtain ⟨va, vb, rfl, ha, hb⟩ := h.ex
  have HA := Lib.hid ha
  have HB := Lib.hid hb
  have HT := Lib.hid (show ∀ W, Below w.heap.size w W → Lib.TabIs Tryz.prog W "internal/strconv.uint64pow10" .u64 Lib.pow10Tab from Lib.tabBelow_of_tabIs htab)
  clear htab h
  obtain ⟨A, c, rfl, -, -, -, -⟩ := ha.ex
  obtain ⟨A', c', rfl, -, -, -, -⟩ := hb.ex
  clear ha hb
  rcases Nat.eq_zero_or_pos n with h0 | hpos
  · subst h0
    have e : (Nt.digs 0).length = 0 := by rw [Nt.digs_zero]; rfl
    have hz : (((Nt.digs 0).length : Int) == 0) = true := by rw [e]; rfl
    clear e
    go_enter Tryz.func76, Tryz.ntmps76
    go_wp2_with (go_at_call 128; refine (zero_any _ _ _ _).mono ?_; rintro e w1 ⟨rfl, rfl⟩)
    refine bodyPost_ret (v := .tuple #[.agg #[.string ⟨#[48]⟩, .string ⟨#[49]⟩], .int .i64 0]) (by simp [results, Tryz.results76, go_sem]) rfl ?_
    exact ⟨((Below.refl _ w).alloc (Nat.le_refl _) _).alloc (by simp) _, _, _, rfl, rfl, rfl⟩
  have hl : (Nt.digs n).length ≠ 0 := by rw [Nt.digs_pos hpos]; simp
  have hz : (((Nt.digs n).length : Int) == 0) = false := by rw [beq_eq_false_iff_ne]; omega
  obtain ⟨g, hg⟩ : ∃ g, g = Nat.gcd n d := ⟨_, rfl⟩
  have hg0 : g ≠ 0 := by rw [hg]; exact fun e => hd (Nat.gcd_eq_zero_iff.1 e).2
  have hgl : (Nt.digs g).length ≤ 900000 := Nat.le_trans (digs_mono (by rw [hg]; exact Nat.gcd_le_left d hpos)) s1
  rw [← hg] at f1 f2
  have HG := Lib.hid hg
  have HF1 := Lib.hid f1
  have HF2 := Lib.hid f2
  have hco := fun (W : World) (hb : Below w.heap.size w W) => common_any (.slice A (Nt.digs n).length c) (.slice A' (Nt.digs d).length c') n d W (HA.out.below hb) (HB.out.below hb) s1 s2
  rw [← hg] at hco
  have HCO := Lib.hid hco
  have HDN := Lib.hid fun (W : World) (vg : Value) (h1 : Nv W (.slice A (Nt.digs n).length c) (Nt.digs n)) (h2 : Nv W vg (Nt.digs g)) => divide_n _ vg n g W h1 h2 s1 hgl hg0
  have HDD := Lib.hid fun (W : World) (vg : Value) (h1 : Nv W (.slice A' (Nt.digs d).length c') (Nt.digs d)) (h2 : Nv W vg (Nt.digs g)) => divide_n _ vg d g W h1 h2 s2 hgl hg0
  clear hco hg hg0 f1 f2 hgl hl s1 s2
  have HX0 := Lib.hid ((Blk.new w 107 #[.bool m, .slice A (Nt.digs n).length c, .slice A' (Nt.digs d).length c']).alloc (.cells #[.string ⟨#[]⟩, .string ⟨#[]⟩] 24))
  have hR0 := Blk.new (w.alloc (.cells #[.bool m, .slice A (Nt.digs n).length c, .slice A' (Nt.digs d).length c'] 107)) 24 #[.string ⟨#[]⟩, .string ⟨#[]⟩]
  rw [World.size_alloc] at hR0
  have HR0 := Lib.hid hR0
  have HBe0 := Lib.hid (((Below.refl _ w).alloc (Nat.le_refl _) (.cells #[.bool m, .slice A (Nt.digs n).length c, .slice A' (Nt.digs d).length c'] 107)).alloc (by simp) (.cells #[.string ⟨#[]⟩, .string ⟨#[]⟩] 24))
  clear hR0
  obtain ⟨x0, x1, x2, -, -, -⟩ := HX0.out.three
  obtain ⟨r0, r1, f0, f1⟩ := HR0.out.two
  have hsz : (0 : Int) ≤ 0 := Int.le_refl 0
  cases m
  case false =>
    go_enter Tryz.func76, Tryz.ntmps76
    go_wp2_with (first | (go_at_call 128; refine (zero_any _ _ _ _).mono ?_; rintro e w0 ⟨rfl, rfl⟩) | (go_at_call 130; refine (HCO.out _ (HBe0.out)).mono ?_; rintro e w1 ⟨v1, rfl, hn1, hw1⟩; have HA1 := Lib.hid ((HA.out.below HBe0.out).below hw1); have HB1 := Lib.hid ((HB.out.below HBe0.out).below hw1); have HG1 := Lib.hid hn1; have hX1 := HX0.out.later hw1; have hR1 := HR0.out.later hw1; have hB1 := HBe0.out.trans (hw1.mono HBe0.out.size); have HX1 := Lib.hid hX1; have HR1 := Lib.hid hR1; have HBe1 := Lib.hid hB1; clear hX1 hR1 hB1 x0 x1 x2 r0 r1 f0 f1; obtain ⟨x0, x1, x2, -, -, -⟩ := HX1.out.three; obtain ⟨r0, r1, f0, f1⟩ := HR1.out.two; clear hn1 hw1) | (go_at_call 131; first | ((with_reducible refine (HDN.out _ _ HA1.out HG1.out).mono ?_); rintro e w2 ⟨v2, u2, rfl, hn2, -, hw2⟩; have HB2 := Lib.hid (HB1.out.below hw2); have HG2 := Lib.hid (HG1.out.below hw2); have HN2 := Lib.hid hn2; have hX2 := HX1.out.later hw2; have hR2 := HR1.out.later hw2; have hB2 := HBe1.out.trans (hw2.mono HBe1.out.size); have HX2 := Lib.hid hX2; have HR2 := Lib.hid hR2; have HBe2 := Lib.hid hB2; clear hX2 hR2 hB2 x0 x1 x2 r0 r1 f0 f1; obtain ⟨x0, x1, x2, -, -, -⟩ := HX2.out.three; obtain ⟨r0, r1, f0, f1⟩ := HR2.out.two; clear hn2 hw2) | ((with_reducible refine (HDD.out _ _ HB2.out HG2.out).mono ?_); rintro e w3 ⟨v3, u3, rfl, hn3, -, hw3⟩; have HN3 := Lib.hid (HN2.out.below hw3); have HD3 := Lib.hid hn3; have hX3 := HX2.out.later hw3; have hR3 := HR2.out.later hw3; have hB3 := HBe2.out.trans (hw3.mono HBe2.out.size); have HX3 := Lib.hid hX3; have HR3 := Lib.hid hR3; have HBe3 := Lib.hid hB3; clear hX3 hR3 hB3 x0 x1 x2 r0 r1 f0 f1; obtain ⟨x0, x1, x2, -, -, -⟩ := HX3.out.three; obtain ⟨r0, r1, f0, f1⟩ := HR3.out.two; clear hn3 hw3)) | (go_at_call 132; first | ((with_reducible refine (text_s _ _ _ HN3.out (HT.out _ HBe3.out)).mono ?_); rintro e w4 ⟨t4, rfl, ht4, hw4⟩; have l4 : t4.size ≤ 300 := (by have h9 : t4.data.toList.length = t4.size := rfl; rw [← h9, ht4]; exact HF1.out); have HD4 := Lib.hid (HD3.out.below hw4); have HT4 := Lib.hid ht4; have hX4 := HX3.out.later hw4; have hR4 := HR3.out.later hw4; have hB4 := HBe3.out.trans (hw4.mono HBe3.out.size); have HX4 := Lib.hid hX4; have HR4 := Lib.hid hR4; have HBe4 := Lib.hid hB4; clear hX4 hR4 hB4 x0 x1 x2 r0 r1 f0 f1; obtain ⟨x0, x1, x2, -, -, -⟩ := HX4.out.three; obtain ⟨r0, r1, f0, f1⟩ := HR4.out.two; clear ht4 hw4) | ((with_reducible refine (text_s _ _ _ HD4.out (HT.out _ HBe4.out)).mono ?_); rintro e w5 ⟨t5, rfl, ht5, hw5⟩; have l5 : t5.size ≤ 300 := (by have h9 : t5.data.toList.length = t5.size := rfl; rw [← h9, ht5]; exact HF2.out); have HT5 := Lib.hid ht5; have hX5 := HX4.out.later hw5; have hR5 := HR4.out.later hw5; have hB5 := HBe4.out.trans (hw5.mono HBe4.out.size); have HX5 := Lib.hid hX5; have HR5 := Lib.hid hR5; have HBe5 := Lib.hid hB5; clear hX5 hR5 hB5 x0 x1 x2 r0 r1 f0 f1; obtain ⟨x0, x1, x2, -, -, -⟩ := HX5.out.three; obtain ⟨r0, r1, f0, f1⟩ := HR5.out.two; have y0 := (fun cs => (HX5.out.alloc (.cells cs 24)).three.1); have z0 := (fun cs => (HR5.out.alloc (.cells cs 24)).two.1); have z1 := (fun cs => (HR5.out.alloc (.cells cs 24)).two.2.1); have g0 := (fun cs => (HR5.out.alloc (.cells cs 24)).two.2.2.1); have g1 := (fun cs => (HR5.out.alloc (.cells cs 24)).two.2.2.2); clear ht5 hw5)))
    obtain ⟨-, n0, n1⟩ := (HR5.out.alloc (.cells #[.string t4, .string t5] 24)).two_set (.string t4) (.string t5)
    refine bodyPost_ret (v := .tuple #[.agg #[.string t4, .string t5], .int .i64 0]) (by simp [results, Tryz.results76, go_sem, n0, n1]) rfl ?_
    refine ⟨below_two (HBe5.out.alloc HBe5.out.size _) (by omega) _ _, _, _, rfl, ?_, ?_⟩
    · rw [HT4.out, Nt.numT, if_neg (by omega), ← HG.out]
      rfl
    · rw [HT5.out, Nt.denT, if_neg (by omega), ← HG.out]
  case true =>
    go_enter Tryz.func76, Tryz.ntmps76
    go_wp2_with (first | (go_at_call 128; refine (zero_any _ _ _ _).mono ?_; rintro e w0 ⟨rfl, rfl⟩) | (go_at_call 130; refine (HCO.out _ (HBe0.out)).mono ?_; rintro e w1 ⟨v1, rfl, hn1, hw1⟩; have HA1 := Lib.hid ((HA.out.below HBe0.out).below hw1); have HB1 := Lib.hid ((HB.out.below HBe0.out).below hw1); have HG1 := Lib.hid hn1; have hX1 := HX0.out.later hw1; have hR1 := HR0.out.later hw1; have hB1 := HBe0.out.trans (hw1.mono HBe0.out.size); have HX1 := Lib.hid hX1; have HR1 := Lib.hid hR1; have HBe1 := Lib.hid hB1; clear hX1 hR1 hB1 x0 x1 x2 r0 r1 f0 f1; obtain ⟨x0, x1, x2, -, -, -⟩ := HX1.out.three; obtain ⟨r0, r1, f0, f1⟩ := HR1.out.two; clear hn1 hw1) | (go_at_call 131; first | ((with_reducible refine (HDN.out _ _ HA1.out HG1.out).mono ?_); rintro e w2 ⟨v2, u2, rfl, hn2, -, hw2⟩; have HB2 := Lib.hid (HB1.out.below hw2); have HG2 := Lib.hid (HG1.out.below hw2); have HN2 := Lib.hid hn2; have hX2 := HX1.out.later hw2; have hR2 := HR1.out.later hw2; have hB2 := HBe1.out.trans (hw2.mono HBe1.out.size); have HX2 := Lib.hid hX2; have HR2 := Lib.hid hR2; have HBe2 := Lib.hid hB2; clear hX2 hR2 hB2 x0 x1 x2 r0 r1 f0 f1; obtain ⟨x0, x1, x2, -, -, -⟩ := HX2.out.three; obtain ⟨r0, r1, f0, f1⟩ := HR2.out.two; clear hn2 hw2) | ((with_reducible refine (HDD.out _ _ HB2.out HG2.out).mono ?_); rintro e w3 ⟨v3, u3, rfl, hn3, -, hw3⟩; have HN3 := Lib.hid (HN2.out.below hw3); have HD3 := Lib.hid hn3; have hX3 := HX2.out.later hw3; have hR3 := HR2.out.later hw3; have hB3 := HBe2.out.trans (hw3.mono HBe2.out.size); have HX3 := Lib.hid hX3; have HR3 := Lib.hid hR3; have HBe3 := Lib.hid hB3; clear hX3 hR3 hB3 x0 x1 x2 r0 r1 f0 f1; obtain ⟨x0, x1, x2, -, -, -⟩ := HX3.out.three; obtain ⟨r0, r1, f0, f1⟩ := HR3.out.two; clear hn3 hw3)) | (go_at_call 132; first | ((with_reducible refine (text_s _ _ _ HN3.out (HT.out _ HBe3.out)).mono ?_); rintro e w4 ⟨t4, rfl, ht4, hw4⟩; have l4 : t4.size ≤ 300 := (by have h9 : t4.data.toList.length = t4.size := rfl; rw [← h9, ht4]; exact HF1.out); have HD4 := Lib.hid (HD3.out.below hw4); have HT4 := Lib.hid ht4; have hX4 := HX3.out.later hw4; have hR4 := HR3.out.later hw4; have hB4 := HBe3.out.trans (hw4.mono HBe3.out.size); have HX4 := Lib.hid hX4; have HR4 := Lib.hid hR4; have HBe4 := Lib.hid hB4; clear hX4 hR4 hB4 x0 x1 x2 r0 r1 f0 f1; obtain ⟨x0, x1, x2, -, -, -⟩ := HX4.out.three; obtain ⟨r0, r1, f0, f1⟩ := HR4.out.two; clear ht4 hw4) | ((with_reducible refine (text_s _ _ _ HD4.out (HT.out _ HBe4.out)).mono ?_); rintro e w5 ⟨t5, rfl, ht5, hw5⟩; have l5 : t5.size ≤ 300 := (by have h9 : t5.data.toList.length = t5.size := rfl; rw [← h9, ht5]; exact HF2.out); have HT5 := Lib.hid ht5; have hX5 := HX4.out.later hw5; have hR5 := HR4.out.later hw5; have hB5 := HBe4.out.trans (hw5.mono HBe4.out.size); have HX5 := Lib.hid hX5; have HR5 := Lib.hid hR5; have HBe5 := Lib.hid hB5; clear hX5 hR5 hB5 x0 x1 x2 r0 r1 f0 f1; obtain ⟨x0, x1, x2, -, -, -⟩ := HX5.out.three; obtain ⟨r0, r1, f0, f1⟩ := HR5.out.two; have y0 := (fun cs => (HX5.out.alloc (.cells cs 24)).three.1); have z0 := (fun cs => (HR5.out.alloc (.cells cs 24)).two.1); have z1 := (fun cs => (HR5.out.alloc (.cells cs 24)).two.2.1); have g0 := (fun cs => (HR5.out.alloc (.cells cs 24)).two.2.2.1); have g1 := (fun cs => (HR5.out.alloc (.cells cs 24)).two.2.2.2); clear ht5 hw5)))
    obtain ⟨-, n0, n1⟩ := (HR5.out.alloc (.cells #[.string (⟨#[45]⟩ ++ t4), .string t5] 24)).two_set (.string (⟨#[45]⟩ ++ t4)) (.string t5)
    refine bodyPost_ret (v := .tuple #[.agg #[.string (⟨#[45]⟩ ++ t4), .string t5], .int .i64 0]) (by simp [results, Tryz.results76, go_sem, n0, n1]) rfl ?_
    refine ⟨below_two (HBe5.out.alloc HBe5.out.size _) (by omega) _ _, _, _, rfl, ?_, ?_⟩
    · rw [ByteArray.toList_data_append, HT4.out, Nt.numT, if_neg (by omega), ← HG.out]
      rfl
    · rw [HT5.out, Nt.denT, if_neg (by omega), ← HG.out]
end Go.Proofs.YtigeipjkcidleaaGreatDoor

