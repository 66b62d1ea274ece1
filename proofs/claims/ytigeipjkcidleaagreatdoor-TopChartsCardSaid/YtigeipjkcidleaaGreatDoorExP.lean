/- The contracts of exact's run, exponent (where there is none), Of. -/
import Derived.Test.YtigeipjkcidleaaGreatDoorExO
namespace Go.Proofs.YtigeipjkcidleaaGreatDoor
open Go.RowKit
namespace Nt
theorem isD_b (c : UInt8) : (ten10.contains c = true) = isD c := propext (ten10_iff c)
/-- Digits ahead, and the rest. -/
theorem left_split {l m : List UInt8} (h : allD l) (hm : ∀ c t, m = c :: t → ¬ isD c) : Lib.trimLeftS (l ++ m) ten10 = m := by
  unfold Lib.trimLeftS
  induction l with
  | nil =>
    cases m with
    | nil => rfl
    | cons c t =>
      have := hm c t rfl
      rw [List.nil_append, List.dropWhile_cons, if_neg (by rw [isD_b]; exact this)]
  | cons c t ih =>
    rw [List.cons_append, List.dropWhile_cons, if_pos ((ten10_iff c).2 (h c (by simp)))]
    exact ih (fun x hx => h x (by simp [hx]))
end Nt
theorem trimleft_v (s : ByteArray) (w : World) :
    Calls Tryz.prog 275 #[.string s, .string ⟨#[48, 49, 50, 51, 52, 53, 54, 55, 56, 57]⟩] w fun e w' => e = .returned (.string ⟨(Lib.trimLeftS s.data.toList Nt.ten10).toArray⟩) ∧ Below w.heap.size w w' :=
  Any.strings_TrimLeft_laid Tryz.lays161 (by kernel_rfl) s ⟨#[48, 49, 50, 51, 52, 53, 54, 55, 56, 57]⟩ w (by decide) (ascii_of_all (by decide))
theorem ba_ext {a b : ByteArray} (h : a.data.toList = b.data.toList) : a = b := by
  obtain ⟨⟨a⟩⟩ := a
  obtain ⟨⟨b⟩⟩ := b
  simp at h
  rw [h]
/-- run: the digits, and what is behind them. -/
theorem run_any (s a b : ByteArray) (w : World) (hs : s.data.toList = a.data.toList ++ b.data.toList) (ha : Nt.allD a.data.toList) (hb : ∀ c t, b.data.toList = c :: t → ¬ Nt.isD c) (hl : s.size ≤ 1000000) :
    Calls Tryz.prog 269 #[.string s] w fun e w' => e = .returned (.tuple #[.string a, .string b]) ∧ Below w.heap.size w w' := by
  have hz : a.size + b.size = s.size := by
    have := congrArg List.length hs
    rw [List.length_append] at this
    exact this.symm
  have ht := trimleft_v s w
  rw [hs, Nt.left_split ha hb] at ht
  rw [show (⟨b.data.toList.toArray⟩ : ByteArray) = b from ba_ext (by simp)] at ht
  have HT := Lib.hid ht
  have hcut : s.extract 0 (s.size - b.size) = a := ba_ext (by
    rw [Lib.extract_data, hs, show s.size - b.size = a.data.toList.length from (by have : a.size = a.data.toList.length := rfl; omega)]
    simp)
  have HC := Lib.hid hcut
  have HZ := Lib.hid hz
  have b1 : (b.size : Int) ≤ s.size := by omega
  have b2 : (s.size : Int) - b.size = a.size := by omega
  have HB2 := Lib.hid b2
  clear ht hcut hz b2 hs ha hb
  go_enter Tryz.func269, Tryz.ntmps269
  go_wp2_with (go_at_call 275; refine HT.out.mono ?_; rintro e w2 ⟨rfl, hbw⟩)
  rw [HC.out]
  go_ret2
  exact ⟨rfl, hbw⟩
/-- exponent: there is none. -/
theorem exponent_none (w : World) :
    Calls Tryz.prog 270 #[.string ⟨#[]⟩] w fun e w' => e = .returned (.tuple #[.int .i64 0, .bool true]) ∧ w = w' := by
  go_enter Tryz.func270, Tryz.ntmps270
  go_wp2_with fail
  go_ret2
  exact ⟨rfl, rfl⟩
/-- Of: a small number. -/
theorem of_nat (n : Nat) (w : World) (hn : n ≤ 1000) (htab : Lib.TabIs Tryz.prog w "internal/strconv.uint64pow10" .u64 Lib.pow10Tab) :
    Calls Tryz.prog 9 #[.int .i64 (n : Int)] w fun e w' => ∃ t : ByteArray, e = .returned (.agg #[.string t, .string ⟨#[49]⟩]) ∧ t.data.toList = Lib.decDigits n ∧ Below w.heap.size w w' := by
  have HT := Lib.hid (Lib.tabBelow_of_tabIs htab)
  have HI := Lib.hid (show ∀ W, Below w.heap.size w W → Calls Tryz.prog 15 #[.int .i64 (n : Int)] W fun e w' => ∃ t : ByteArray, e = .returned (.string t) ∧ t.data.toList = Lib.decDigits n ∧ Below W.heap.size W w' from fun W hW => by
    refine (Tryz.strconv_Itoa (n : Int) (by omega) (by omega) W (HT.out W hW)).mono ?_
    rintro e w' ⟨rfl, k, os, rfl⟩
    exact ⟨_, rfl, by rw [Lib.itoa_nonneg], Lib.below_grow _ W (Nat.le_refl _) k os⟩)
  clear htab
  have HL0 := Lib.hid ((Loc.start w).alloc' rfl 24 #[.string ⟨#[]⟩, .string ⟨#[]⟩])
  go_enter Tryz.func9, Tryz.ntmps9
  go_wp2_with (go_at_call 15; refine (HI.out _ HL0.out.bel).mono ?_; rintro e w2 ⟨t, rfl, ht, hb⟩; have hl := HL0.out.step hb; have HL1 := Lib.hid hl; obtain ⟨x0, x1, f0, f1⟩ := (hl.blk (g := w.heap.size) (t := 24) (cs := #[.string ⟨#[]⟩, .string ⟨#[]⟩]) (by simp)).two; clear hl; have HTT := Lib.hid ht; clear ht)
  have bl := HL1.out.blk (g := w.heap.size) (t := 24) (cs := #[.string ⟨#[]⟩, .string ⟨#[]⟩]) (by simp)
  obtain ⟨-, q0, q1⟩ := bl.two_set (.string t) (.string ⟨#[49]⟩)
  refine bodyPost_ret (v := .agg #[.string t, .string ⟨#[49]⟩]) (by simp [results, Tryz.results9, go_sem, q0, q1]) rfl ?_
  exact ⟨t, rfl, HTT.out, below_two HL1.out.bel (Nat.le_refl _) _ _⟩
namespace Nt
theorem pre_sgn' (m : Bool) (l : List UInt8) (h : l.head? ≠ some 45) : Lib.trimPrefix (sgn m ++ l) [45] = l ∧ Lib.hasPrefix (sgn m ++ l) [45] = m := by
  cases m with
  | true => simp [sgn, Lib.trimPrefix, Lib.hasPrefix]
  | false =>
    cases l with
    | nil => simp [sgn, Lib.trimPrefix, Lib.hasPrefix]
    | cons c t =>
      have hc : c ≠ 45 := fun e => h (by rw [e]; rfl)
      simp [sgn, Lib.trimPrefix, Lib.hasPrefix, List.isPrefixOf, Ne.symm hc]
theorem dval_ten (n : Nat) : dval (49 :: List.replicate n 48) = 10 ^ n := by
  rw [dval_cons, List.length_replicate]
  have : ∀ k, dval (List.replicate k 48) = 0 := fun k => by
    induction k with
    | zero => rfl
    | succ k ih => rw [List.replicate_succ, dval_cons, ih]; simp
  rw [this]
  simp
theorem allD_ten (n : Nat) : allD (49 :: List.replicate n 48) := fun c hc => by
  rcases List.mem_cons.1 hc with rfl | hc
  · exact ⟨by decide, by decide⟩
  · rw [(List.mem_replicate.1 hc).2]; exact ⟨by decide, by decide⟩
end Nt
theorem nv_lit (W : World) (d : Nat) (h0 : 0 < d) (h1 : d < Nt.B) (y : Int) (hy : y = (d : Int)) : Nv (W.alloc (.cells #[.int .u32 y] 193)) (.slice (some ⟨W.heap.size, 0, none⟩) 1 1) (Nt.digs d) := by
  have e : Nt.digs d = [d] := by
    rw [Nt.digs_pos h0, Nat.mod_eq_of_lt h1, Nat.div_eq_of_lt h1, Nt.digs_zero]
  rw [e]
  exact (own_lit1 W W.heap.size (Nat.le_refl _) y d hy).nv (by simp)
theorem repeatL_one (c : UInt8) (n : Nat) : Lib.repeatL [c] n = List.replicate n c := by
  induction n with
  | zero => rfl
  | succ n ih =>
    rw [List.replicate_succ, ← ih]
    rfl
theorem ten_any (n : Nat) (w : World) (hn : n ≤ 700000) :
    Calls Tryz.prog 204 #[.int .i64 (n : Int)] w fun e w' => ∃ A c, e = .returned (.slice A (Nt.digs (10 ^ n)).length c) ∧ Nv w' (.slice A (Nt.digs (10 ^ n)).length c) (Nt.digs (10 ^ n)) ∧ Below w.heap.size w w' := by
  have HR := Lib.hid (show Calls Tryz.prog 236 #[.string ⟨#[48]⟩, .int .i64 (n : Int)] w fun e w' => ∃ t : ByteArray, e = .returned (.string t) ∧ t.data.toList = List.replicate n 48 ∧ Below w.heap.size w w' from by
    refine (Tryz.strings_Repeat ⟨#[48]⟩ n w (by omega) (by show 1 * n ≤ _; omega)).mono ?_
    rintro e w' ⟨rfl, hb⟩
    exact ⟨_, rfl, by rw [← repeatL_one], hb⟩)
  have HP := Lib.hid (show ∀ (W : World) (t : ByteArray), t.data.toList = List.replicate n 48 → Calls Tryz.prog 138 #[.string (⟨#[49]⟩ ++ t)] W fun e w' => ∃ A c, e = .returned (.slice A (Nt.digs (10 ^ n)).length c) ∧ Nv w' (.slice A (Nt.digs (10 ^ n)).length c) (Nt.digs (10 ^ n)) ∧ Below W.heap.size W w' from fun W t ht => by
    have hp := parse_any (⟨#[49]⟩ ++ t) (49 :: List.replicate n 48) W (by rw [ByteArray.toList_data_append, ht]; rfl) (Nt.allD_ten n) (by simp; omega)
    rw [Nt.dval_ten] at hp
    refine hp.mono ?_
    rintro e w' ⟨v, rfl, hv, hb⟩
    obtain ⟨A, c, rfl, _⟩ := hv.ex
    exact ⟨A, c, rfl, hv, hb⟩)
  have hz : ∀ t : ByteArray, t.data.toList = List.replicate n 48 → t.size = n := fun t ht => by
    have := congrArg List.length ht
    rw [List.length_replicate] at this
    exact this
  have HZ := Lib.hid hz
  clear hz
  go_enter Tryz.func204, Tryz.ntmps204
  go_wp2_with (first
    | (go_at_call 236; refine HR.out.mono ?_; rintro e w1 ⟨t, rfl, ht, hb⟩; have lt : t.size ≤ 700000 := (by have := HZ.out t ht; omega); have HTT := Lib.hid ht; have HB := Lib.hid hb; clear ht hb)
    | (go_at_call 138; (with_reducible refine (HP.out _ t HTT.out).mono ?_); rintro e w2 ⟨A, c, rfl, hv, hb⟩; have HV := Lib.hid hv; have HB2 := Lib.hid (below_tr HB.out hb); clear hv hb))
  go_ret
  exact ⟨A, c, rfl, HV.out, HB2.out⟩
end Go.Proofs.YtigeipjkcidleaaGreatDoor
