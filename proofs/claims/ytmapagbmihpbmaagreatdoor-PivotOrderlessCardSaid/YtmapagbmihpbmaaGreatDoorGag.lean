/- The contracts of exact's run, exponent (where there is none), Of. -/
import Derived.Shelf.Strings.Repeat
import Derived.Test.YtmapagbmihpbmaaGreatDoorGaf
set_option linter.unusedSimpArgs false
set_option linter.unusedVariables false
namespace Go.Proofs.YtmapagbmihpbmaaGreatDoor
open Go.RowKit
namespace Nt
theorem isD_b (c : UInt8) : (ten10.contains c = true) = isD c := propext (ten10_iff c)
/-- Digits ahead, and the rest. -/
theorem left_split {l m : List UInt8} (h : allD l) (hm : ∀ c t, m = c :: t → ¬ isD c) : Lib.trimLeftS (l ++ m) ten10 = m := by
  unfold Lib.trimLeftS
  induction l with
  | nil =>
    cases m with
    | nil => rfl
    | cons c t =>
      have := hm c t rfl
      rw [List.nil_append, List.dropWhile_cons, if_neg (by rw [isD_b]; exact this)]
  | cons c t ih =>
    rw [List.cons_append, List.dropWhile_cons, if_pos ((ten10_iff c).2 (h c (by simp)))]
    exact ih (fun x hx => h x (by simp [hx]))
end Nt
theorem ba_ext {a b : ByteArray} (h : a.data.toList = b.data.toList) : a = b := by
  obtain ⟨⟨a⟩⟩ := a
  obtain ⟨⟨b⟩⟩ := b
  simp at h
  rw [h]
/-- Of: a small number. -/
theorem of_nat (n : Nat) (w : World) (hn : n ≤ 1000) (htab : Lib.TabIs Tryz.prog w "internal/strconv.uint64pow10" .u64 Lib.pow10Tab) :
    Calls Tryz.prog 7 #[.int .i64 (n : Int)] w fun e w' => ∃ t : ByteArray, e = .returned (.agg #[.string t, .string ⟨#[49]⟩]) ∧ t.data.toList = Lib.decDigits n ∧ Below w.heap.size w w' := by
  have HT := Lib.hid (Lib.tabBelow_of_tabIs htab)
  have HI := Lib.hid (show ∀ W, Below w.heap.size w W → Calls Tryz.prog 20 #[.int .i64 (n : Int)] W fun e w' => ∃ t : ByteArray, e = .returned (.string t) ∧ t.data.toList = Lib.decDigits n ∧ Below W.heap.size W w' from fun W hW => by
    refine (Tryz.strconv_Itoa (n : Int) (by omega) (by omega) W (HT.out W hW)).mono ?_
    rintro e w' ⟨rfl, k, os, rfl⟩
    exact ⟨_, rfl, by rw [Lib.itoa_nonneg], Lib.below_grow _ W (Nat.le_refl _) k os⟩)
  clear htab
  have HL0 := Lib.hid ((Loc.start w).alloc' rfl 24 #[.string ⟨#[]⟩, .string ⟨#[]⟩])
  go_enter Tryz.func7, Tryz.ntmps7
  go_wp2_with (go_at_call 20; refine (HI.out _ HL0.out.bel).mono ?_; rintro e w2 ⟨t, rfl, ht, hb⟩; have hl := HL0.out.step hb; have HL1 := Lib.hid hl; obtain ⟨x0, x1, f0, f1⟩ := (hl.blk (g := w.heap.size) (t := 24) (cs := #[.string ⟨#[]⟩, .string ⟨#[]⟩]) (by simp)).two; clear hl; have HTT := Lib.hid ht; clear ht)
  have bl := HL1.out.blk (g := w.heap.size) (t := 24) (cs := #[.string ⟨#[]⟩, .string ⟨#[]⟩]) (by simp)
  obtain ⟨-, q0, q1⟩ := bl.two_set (.string t) (.string ⟨#[49]⟩)
  refine bodyPost_ret (v := .agg #[.string t, .string ⟨#[49]⟩]) (by simp [results, Tryz.results7, go_sem, q0, q1]) rfl ?_
  exact ⟨t, rfl, HTT.out, below_two HL1.out.bel (Nat.le_refl _) _ _⟩
namespace Nt
theorem pre_sgn' (m : Bool) (l : List UInt8) (h : l.head? ≠ some 45) : Lib.trimPrefix (sgn m ++ l) [45] = l ∧ Lib.hasPrefix (sgn m ++ l) [45] = m := by
  cases m with
  | true => simp [sgn, Lib.trimPrefix, Lib.hasPrefix]
  | false =>
    cases l with
    | nil => simp [sgn, Lib.trimPrefix, Lib.hasPrefix]
    | cons c t =>
      have hc : c ≠ 45 := fun e => h (by rw [e]; rfl)
      simp [sgn, Lib.trimPrefix, Lib.hasPrefix, List.isPrefixOf, Ne.symm hc]
theorem dval_ten (n : Nat) : dval (49 :: List.replicate n 48) = 10 ^ n := by
  rw [dval_cons, List.length_replicate]
  have : ∀ k, dval (List.replicate k 48) = 0 := fun k => by
    induction k with
    | zero => rfl
    | succ k ih => rw [List.replicate_succ, dval_cons, ih]; simp
  rw [this]
  simp
theorem allD_ten (n : Nat) : allD (49 :: List.replicate n 48) := fun c hc => by
  rcases List.mem_cons.1 hc with rfl | hc
  · exact ⟨by decide, by decide⟩
  · rw [(List.mem_replicate.1 hc).2]; exact ⟨by decide, by decide⟩
end Nt
theorem nv_lit (W : World) (d : Nat) (h0 : 0 < d) (h1 : d < Nt.B) (y : Int) (hy : y = (d : Int)) : Nv (W.alloc (.cells #[.int .u32 y] 130)) (.slice (some ⟨W.heap.size, 0, none⟩) 1 1) (Nt.digs d) := by
  have e : Nt.digs d = [d] := by
    rw [Nt.digs_pos h0, Nat.mod_eq_of_lt h1, Nat.div_eq_of_lt h1, Nt.digs_zero]
  rw [e]
  exact (own_lit1 W W.heap.size (Nat.le_refl _) y d hy).nv (by simp)
theorem repeatL_one (c : UInt8) (n : Nat) : Lib.repeatL [c] n = List.replicate n c := by
  induction n with
  | zero => rfl
  | succ n ih =>
    rw [List.replicate_succ, ← ih]
    rfl
end Go.Proofs.YtmapagbmihpbmaaGreatDoor

namespace Go.Proofs.YtmapagbmihpbmaaGreatDoor
open Go.RowKit

theorem Nv.apart1 {W : World} {v : Value} {l : List Nat} (h : Nv W v l) {z i : Nat} {t : TypeId} {b : Bool} {A A' : Option Addr} {n n' c c' : Nat} (hz : Blk W z t #[.bool b, .slice A n c, .slice A' n' c']) (y : Value) : Nv (W.setCell ⟨z, i, none⟩ y) v l := by
  obtain ⟨A, c, rfl, h1, h2, h0, h3⟩ := h.ex
  refine ⟨A, c, rfl, h1, h2, h0, fun hl => ?_⟩
  obtain ⟨g, o, rfl, h4, h5⟩ := h3 hl
  have hne : g ≠ z := by
    rintro rfl
    have e1 := h5 0 hl
    rw [Nat.add_zero, hz.cell] at e1
    match o, e1 with
    | 0, e1 => simp at e1
    | 1, e1 => simp at e1
    | 2, e1 => simp at e1
    | o + 3, e1 => simp at e1
  refine ⟨g, o, rfl, by simpa [World.setCell] using h4, fun i hi => ?_⟩
  rw [World.cell?_setCell_other _ _ _ _ (fun e => by have := congrArg Addr.block e; simp only at this; omega)]
  exact h5 i hi
theorem parse_o (s : ByteArray) (l : List UInt8) (w : World) (hs : s.data.toList = l) (h : Nt.allD l) (hl : l.length ≤ 800000) :
    Calls Tryz.prog 102 #[.string s] w fun e w' => ∃ A c, e = .returned (.slice A (Nt.digs (Nt.dval l)).length c) ∧ Nv w' (.slice A (Nt.digs (Nt.dval l)).length c) (Nt.digs (Nt.dval l)) ∧ Below w.heap.size w w' := by
  refine (parse_any s l w hs h hl).mono ?_
  rintro e w' ⟨v, rfl, hv, hb⟩
  obtain ⟨A, c, rfl, _⟩ := hv.ex
  exact ⟨A, c, rfl, hv, hb⟩
theorem ba_len (s : ByteArray) : s.data.toList.length = s.size := rfl
theorem emp_false {a : ByteArray} (h : a.data.toList ≠ []) : a.toList.isEmpty = false := by
  rw [Lib.toList_data]
  cases hx : a.data.toList with
  | nil => exact absurd hx h
  | cons x l => rfl

end Go.Proofs.YtmapagbmihpbmaaGreatDoor

namespace Go.Proofs.YtmapagbmihpbmaaGreatDoor
open Go.RowKit

def frc (a b : ByteArray) : Value := .agg #[.string a, .string b]
def frSame (a b c d : ByteArray) : Bool := a.toList == c.toList && b.toList == d.toList
theorem frSame_iff (a b c d : ByteArray) : frSame a b c d = true ↔ a = c ∧ b = d := by
  unfold frSame
  rw [Bool.and_eq_true, beq_iff_eq, beq_iff_eq, Lib.toList_data, Lib.toList_data, Lib.toList_data, Lib.toList_data]
  exact ⟨fun ⟨h1, h2⟩ => ⟨ba_ext h1, ba_ext h2⟩, by rintro ⟨rfl, rfl⟩; exact ⟨rfl, rfl⟩⟩
theorem frSame_refl (a b : ByteArray) : frSame a b a b = true := (frSame_iff _ _ _ _).2 ⟨rfl, rfl⟩
theorem fr_stood : Tryz.prog.stoodInHeld 24 = false := by kernel_rfl
theorem fr_fields : Tryz.prog.underlying 24 = some (.struct (Tryz.prog.fieldsOf 24)) := by kernel_rfl
theorem eq_s (W : World) (a b : ByteArray) : (Op.equalIn 9999 9 (.string a) (.string b)).run Tryz.prog W = .ok (a.toList == b.toList) W := run_equalIn_string W 9998 _ a b Tryz.underlying9
theorem fr_equalIn (a b c d : ByteArray) (W : World) : (Op.equalIn 10000 24 (.agg #[.string a, .string b]) (.agg #[.string c, .string d])).run Tryz.prog W = .ok (frSame a b c d) W := by
  rw [run_equalIn_struct W 9999 _ _ _ fr_fields fr_stood]
  simp only [Program.fieldsOf, Tryz.underlying24]
  simp only [Op.eqFields, Sem.run_bind, Sem.run_ite, part]
  simp [eq_s]
  unfold frSame
  repeat' split
  all_goals simp [*]
theorem fr_neq (a b c d : ByteArray) (W : World) : (binOp .neq 24 (.agg #[.string a, .string b]) (.agg #[.string c, .string d])).run Tryz.prog W = .ok (.bool (!frSame a b c d)) W := by
  rw [run_neq_struct, fr_equalIn]; rfl
theorem fr_eql (a b c d : ByteArray) (W : World) : (binOp .eql 24 (.agg #[.string a, .string b]) (.agg #[.string c, .string d])).run Tryz.prog W = .ok (.bool (frSame a b c d)) W := by
  rw [run_eql_struct, fr_equalIn]; rfl
theorem fr_neq_self (a b : ByteArray) (W : World) : (binOp .neq 24 (.agg #[.string a, .string b]) (.agg #[.string a, .string b])).run Tryz.prog W = .ok (.bool false) W := by rw [fr_neq, frSame_refl]; rfl
theorem fr_eql_self (a b : ByteArray) (W : World) : (binOp .eql 24 (.agg #[.string a, .string b]) (.agg #[.string a, .string b])).run Tryz.prog W = .ok (.bool true) W := by rw [fr_eql, frSame_refl]

namespace Nt
theorem rd_small (n d : Nat) (hn : n < 10) (hd : d < 10) (h0 : d ≠ 0) (hg : Nat.gcd n d = 1) : Rd [UInt8.ofNat (48 + n)] [UInt8.ofNat (48 + d)] false n d :=
  ⟨by rw [Lib.decDigits_one hn]; rfl, by rw [Lib.decDigits_one hd], h0, fun _ => rfl, by rw [Lib.decDigits_one hn]; simp, by rw [Lib.decDigits_one hd]; simp, hg⟩
theorem qk_small (n d k : Nat) (hn : n < 10) (hd : d < 10) (h0 : d ≠ 0) (hg : Nat.gcd n d = 1) : Qk [UInt8.ofNat (48 + n)] [UInt8.ofNat (48 + d)] n d (k + 1) := by
  have hp : 1 ≤ 10 ^ k := Nat.one_le_pow _ _ (by decide)
  refine ⟨⟨h0, false, n, d, rd_small n d hn hd h0 hg, rfl⟩, ?_, ?_⟩
  · rw [Int.natAbs_natCast, Nat.pow_succ]; omega
  · rw [Nat.pow_succ]; omega
end Nt
theorem Few.qk {p : ByteArray × ByteArray} (h : Few p) : ∃ z d, Nt.Qk p.1.data.toList p.2.data.toList z d 40 := by
  obtain ⟨m, n, d, hr⟩ := h.rd
  exact ⟨_, _, hr.qk h.l1 h.l2⟩
theorem is_str {s : ByteArray} {l : List UInt8} (h : s.data.toList = l) : (s.toList == l) = true := by rw [Lib.toList_data, h]; simp
theorem not_str {s : ByteArray} {l : List UInt8} (h : s.data.toList ≠ l) : (s.toList == l) = false := by rw [Lib.toList_data]; simpa using h
theorem fits150 : Fits (Nt.dval [49, 53, 48]) (10 ^ 2) := by
  have e : Nt.dval [49, 53, 48] = 150 := by decide
  rw [e]
  have h1 : (Nt.digs 150).length ≤ 1 := Nt.digs_len (by decide)
  have h2 : (Nt.digs (10 ^ 2)).length ≤ 1 := Nt.digs_len (by decide)
  exact ⟨by omega, by omega, Nat.le_trans (Nt.dd_le (k := 0) (by decide)) (by decide), Nat.le_trans (Nt.dd_le (k := 0) (by decide)) (by decide)⟩
theorem of_c (n : Nat) (w : World) (hn : n < 10) (htab : Lib.TabIs Tryz.prog w "internal/strconv.uint64pow10" .u64 Lib.pow10Tab) :
    Calls Tryz.prog 7 #[.int .i64 (n : Int)] w fun e w' => e = .returned (.agg #[.string ⟨#[UInt8.ofNat (48 + n)]⟩, .string ⟨#[49]⟩]) ∧ Below w.heap.size w w' := by
  refine (of_nat n w (by omega) htab).mono ?_
  rintro e w' ⟨t, rfl, ht, hb⟩
  rw [Lib.decDigits_one hn] at ht
  obtain rfl : t = ⟨#[UInt8.ofNat (48 + n)]⟩ := ba_ext ht
  exact ⟨rfl, hb⟩
section
variable {w W : World} {L : List (Nat × TypeId × Array Value)} {g z : Nat} {t : TypeId} {a b : Value}
theorem Loc.s2 (h : Loc w L W) (hm : (g, t, #[a, b]) ∈ L) : W.cell? ⟨g, 0, none⟩ = some a ∧ W.cell? ⟨g, 1, none⟩ = some b := ⟨(h.blk hm).two.1, (h.blk hm).two.2.1⟩
theorem Loc.s2f (h : Loc w L W) (hm : (g, t, #[a, b]) ∈ L) (hz : g ≠ z) (y0 y1 : Value) : ((W.setCell ⟨z, 0, none⟩ y0).setCell ⟨z, 1, none⟩ y1).cell? ⟨g, 0, none⟩ = some a ∧ ((W.setCell ⟨z, 0, none⟩ y0).setCell ⟨z, 1, none⟩ y1).cell? ⟨g, 1, none⟩ = some b :=
  have p := ((h.blk hm).far (p := ⟨z, 0, none⟩) hz y0).far (p := ⟨z, 1, none⟩) hz y1
  ⟨p.cell 0, p.cell 1⟩
theorem Loc.set2 {x0 x1 : Value} (h : Loc w ((g, t, #[x0, x1]) :: L) W) (hne : ∀ x ∈ L, x.1 ≠ g) (y0 y1 : Value) : Loc w ((g, t, #[y0, y1]) :: L) ((W.setCell ⟨g, 0, none⟩ y0).setCell ⟨g, 1, none⟩ y1) :=
  ⟨below_two h.1 (h.2 _ (List.mem_cons_self ..)).1 _ _, fun x hx => by
    rcases List.mem_cons.1 hx with rfl | hx
    · exact ⟨(h.2 _ (List.mem_cons_self ..)).1, ((h.2 _ (List.mem_cons_self ..)).2.two_set _ _).1⟩
    · have := h.2 x (List.mem_cons_of_mem _ hx)
      exact ⟨this.1, (this.2.far (p := ⟨g, 0, none⟩) (hne x hx) _).far (p := ⟨g, 1, none⟩) (hne x hx) _⟩⟩
end

end Go.Proofs.YtmapagbmihpbmaaGreatDoor

namespace Go.Proofs.YtmapagbmihpbmaaGreatDoor
open Go.RowKit

set_option maxRecDepth 100000 in
set_option maxHeartbeats 2000000 in
theorem compare_w (a1 a2 b1 b2 : ByteArray) (m1 : Bool) (n1 e1 : Nat) (m2 : Bool) (n2 e2 : Nat) (w : World) (h1 : a1.size ≤ 9223372036854775807) (h2 : a2.size ≤ 9223372036854775807) (h3 : b1.size ≤ 9223372036854775807) (h4 : b2.size ≤ 9223372036854775807)
    (ha : Nt.Rd a1.data.toList a2.data.toList m1 n1 e1) (hb : Nt.Rd b1.data.toList b2.data.toList m2 n2 e2)
    (s1 : (Nt.digs n1).length ≤ 400000) (s2 : (Nt.digs e1).length ≤ 400000) (s3 : (Nt.digs n2).length ≤ 400000) (s4 : (Nt.digs e2).length ≤ 400000) :
    Calls Tryz.prog 71 #[.agg #[.string a1, .string a2], .agg #[.string b1, .string b2]] w fun e w' => ∃ r : Int, e = .returned (.tuple #[.int .i64 r, .int .i64 0]) ∧ r = Int.sign (Nt.zi m1 (n1 * e2) - Nt.zi m2 (n2 * e1)) ∧ Below w.heap.size w w' := by
  have HBO := Lib.hid fun W => both_ok a1 a2 b1 b2 m1 n1 e1 m2 n2 e2 W h1 h2 h3 h4 ha hb
  have HSU := Lib.hid fun (W : World) A1 c1 A2 c2 B1 k1 B2 k2 p1 p2 p3 p4 => sum_o A1 c1 A2 c2 B1 k1 B2 k2 m1 n1 e1 (!m2) n2 e2 W p1 p2 p3 p4 s1 s2 s3 s4
  clear ha hb h1 h2 h3 h4 s1 s2 s3 s4
  have HL0 := Lib.hid (((Loc.start w).alloc' rfl 24 #[.string a1, .string a2]).alloc' (g := w.heap.size + 1) (by simp) 24 #[.string b1, .string b2])
  go_enter Tryz.func71, Tryz.ntmps71
  go_upto_region 6 with (first
    | (go_at_call 46; (with_reducible refine (HBO.out _).mono ?_); rintro e w1 ⟨A1, c1, A2, c2, B1, k1, B2, k2, rfl, hn1, hn2, hm1, hm2, hb⟩; have HL1 := Lib.hid (((HL0.out.step hb).alloc 67 #[.bool m1, .slice A1 (Nt.digs n1).length c1, .slice A2 (Nt.digs e1).length c2]).alloc 67 #[.bool (!m2), .slice B1 (Nt.digs n2).length k1, .slice B2 (Nt.digs e2).length k2]); have HAL := Lib.hid (((Below.refl _ w1).alloc (Nat.le_refl _) (.cells #[.bool m1, .slice A1 (Nt.digs n1).length c1, .slice A2 (Nt.digs e1).length c2] 67)).alloc (by simp) (.cells #[.bool (!m2), .slice B1 (Nt.digs n2).length k1, .slice B2 (Nt.digs e2).length k2] 67)); have HN1 := Lib.hid hn1; have HN2 := Lib.hid hn2; have HM1 := Lib.hid hm1; have HM2 := Lib.hid hm2; clear hn1 hn2 hm1 hm2 hb)
    | (go_at_call 23; (with_reducible refine (HSU.out _ _ _ _ _ _ _ _ _ (HN1.out.below HAL.out) (HN2.out.below HAL.out) (HM1.out.below HAL.out) (HM2.out.below HAL.out)).mono ?_); rintro e w2 ⟨m, n, A, c, A', c', rfl, hp, hr1, hr2, hb⟩; have HL2 := Lib.hid ((HL1.out.step hb).alloc 67 #[.bool m, .slice A (Nt.digs n).length c, .slice A' (Nt.digs (e1 * e2)).length c']); have HPP := Lib.hid hp.1; have HR1 := Lib.hid (hr1.below ((Below.refl _ w2).alloc (Nat.le_refl _) (.cells #[.bool m, .slice A (Nt.digs n).length c, .slice A' (Nt.digs (e1 * e2)).length c'] 67))); clear hp hr1 hr2 hb))
  have hZ : Nt.zi m n = Nt.zi m1 (n1 * e2) - Nt.zi m2 (n2 * e1) := by rw [HPP.out, Nt.zi_not, Int.sub_eq_add_neg]
  have HZ := Lib.hid hZ
  have HB := Lib.hid HL2.out.bel
  clear hZ HPP HL2 HL1 HL0 HBO HSU HAL HN1 HN2 HM1 HM2
  rcases Nat.eq_zero_or_pos n with rfl | hpos
  · have hz : (((Nt.digs 0).length : Int) == 0) = true := by rw [Nt.digs_zero]; rfl
    go_wp2_with (go_at_call 75; refine (zero_any _ _ _ _).mono ?_; rintro e w0 ⟨rfl, rfl⟩)
    go_ret2
    exact ⟨0, rfl, by rw [← HZ.out, Nt.zi_zero]; rfl, HB.out⟩
  · have hz : (((Nt.digs n).length : Int) == 0) = false := by rw [Nt.digs_pos (by omega)]; simp; omega
    have HPOS := Lib.hid hpos
    clear hpos
    cases m with
    | true =>
      go_wp2_with (go_at_call 75; refine (zero_any _ _ _ _).mono ?_; rintro e w0 ⟨rfl, rfl⟩)
      go_ret2
      exact ⟨-1, rfl, by rw [← HZ.out]; exact (Int.sign_eq_neg_one_of_neg (by have := HPOS.out; simp [Nt.zi]; omega)).symm, HB.out⟩
    | false =>
      go_wp2_with (go_at_call 75; refine (zero_any _ _ _ _).mono ?_; rintro e w0 ⟨rfl, rfl⟩)
      go_ret2
      exact ⟨1, rfl, by rw [← HZ.out]; exact (Int.sign_eq_one_of_pos (by have := HPOS.out; simp [Nt.zi]; omega)).symm, HB.out⟩

theorem sign_scale {x y : Int} {a b : Nat} (ha : a ≠ 0) (hb : b ≠ 0) (h : x * a = y * b) : Int.sign x = Int.sign y := by
  have e := congrArg Int.sign h
  rw [Int.sign_mul, Int.sign_mul, Int.sign_eq_one_of_pos (a := (a : Int)) (by omega), Int.sign_eq_one_of_pos (a := (b : Int)) (by omega)] at e
  simpa using e
theorem compare_q (a1 a2 b1 b2 : ByteArray) (z1 z2 : Int) (d1 d2 k1 k2 : Nat) (w : World) (ha : Nt.Qk a1.data.toList a2.data.toList z1 d1 k1) (hb : Nt.Qk b1.data.toList b2.data.toList z2 d2 k2) :
    Calls Tryz.prog 71 #[.agg #[.string a1, .string a2], .agg #[.string b1, .string b2]] w fun e w' => ∃ r : Int, e = .returned (.tuple #[.int .i64 r, .int .i64 0]) ∧ r = Int.sign (z1 * d2 - z2 * d1) ∧ Below w.heap.size w w' := by
  obtain ⟨m1, n1, e1, r1, q1⟩ := ha.q.ex
  obtain ⟨m2, n2, e2, r2, q2⟩ := hb.q.ex
  have la := ha.ln
  have lb := hb.ln
  have x1 := lt_pow34 r1.ln
  have x2 := lt_pow34 r1.ld
  have x3 := lt_pow34 r2.ln
  have x4 := lt_pow34 r2.ld
  refine (compare_w a1 a2 b1 b2 m1 n1 e1 m2 n2 e2 w (size_of la.1 (by omega)) (size_of la.2 (by omega)) (size_of lb.1 (by omega)) (size_of lb.2 (by omega)) r1 r2 (Nat.le_trans (digs_pow x1) (by omega)) (Nat.le_trans (digs_pow x2) (by omega)) (Nat.le_trans (digs_pow x3) (by omega)) (Nat.le_trans (digs_pow x4) (by omega))).mono ?_
  rintro e w' ⟨r, rfl, hr, hB⟩
  refine ⟨r, rfl, ?_, hB⟩
  rw [hr]
  refine sign_scale (a := d1 * d2) (b := e1 * e2) (Nat.mul_ne_zero ha.q.d0 hb.q.d0) (Nat.mul_ne_zero r1.d0 r2.d0) ?_
  rw [Nt.zi_mul, Nt.zi_mul]
  push_cast
  grind

namespace Nt
/-- The whole part's digits: away from zero where the number is negative and not whole. -/
def fl (m : Bool) (n e : Nat) : Nat := if m = true ∧ n % e ≠ 0 then n / e + 1 else n / e
theorem fl_spec (m : Bool) (n e : Nat) (he : e ≠ 0) : zi m (fl m n e) * e ≤ zi m n ∧ zi m n < (zi m (fl m n e) + 1) * e := by
  have h1 : n = n / e * e + n % e := by rw [Nat.mul_comm]; exact (Nat.div_add_mod n e).symm
  have h2 := Nat.mod_lt n (Nat.pos_of_ne_zero he)
  obtain ⟨q, hq⟩ : ∃ q, q = n / e := ⟨_, rfl⟩
  obtain ⟨r, hr⟩ : ∃ r, r = n % e := ⟨_, rfl⟩
  unfold fl
  rw [← hq, ← hr] at h1 ⊢
  rw [← hr] at h2
  subst h1
  clear hq hr
  cases m with
  | false =>
    simp only [Bool.false_eq_true, false_and, if_false, zi]
    rw [Int.add_mul]
    push_cast
    omega
  | true =>
    by_cases h0 : r = 0
    · subst h0
      simp only [ne_eq, not_true_eq_false, and_false, if_false, zi, if_true]
      rw [Int.add_mul, Int.neg_mul]
      push_cast
      omega
    · rw [if_pos ⟨rfl, h0⟩]
      simp only [zi, if_true]
      push_cast
      rw [Int.neg_mul, Int.add_mul, Int.add_mul, Int.neg_mul, Int.add_mul]
      omega
theorem fl_le (m : Bool) (n e : Nat) (he : e ≠ 0) : fl m n e ≤ n := by
  unfold fl
  split
  · rename_i h
    have h2 : n % e ≤ n := Nat.mod_le _ _
    by_cases h1 : e = 1
    · subst h1; rw [Nat.mod_one] at h; exact absurd rfl h.2
    · have h3 : n ≠ 0 := by rintro rfl; rw [Nat.zero_mod] at h; exact h.2 rfl
      have : n / e < n := Nat.div_lt_self (by omega) (by omega)
      omega
  · exact Nat.div_le_self _ _
/-- The whole part, of the fraction itself. -/
theorem fl_q {m : Bool} {n e d : Nat} {z : Int} (he : e ≠ 0) (hd : d ≠ 0) (q : zi m n * d = z * e) : zi m (fl m n e) * d ≤ z ∧ z < (zi m (fl m n e) + 1) * d := by
  obtain ⟨h1, h2⟩ := fl_spec m n e he
  obtain ⟨f, hf⟩ : ∃ f, f = zi m (fl m n e) := ⟨_, rfl⟩
  rw [← hf] at h1 h2 ⊢
  have he' : (0 : Int) < e := by omega
  have hd' : (0 : Int) < d := by omega
  constructor
  · refine Int.le_of_mul_le_mul_right ?_ he'
    rw [← q]
    have := Int.mul_le_mul_of_nonneg_right h1 (Int.le_of_lt hd')
    calc f * d * e = f * e * d := by grind
      _ ≤ _ := this
  · refine Int.lt_of_mul_lt_mul_right ?_ (Int.le_of_lt he')
    rw [← q]
    have := Int.mul_lt_mul_of_pos_right h2 hd'
    calc _ < (f + 1) * e * d := this
      _ = _ := by grind
theorem abs_fl {f z : Int} {d : Nat} (hd : d ≠ 0) (h1 : f * d ≤ z) (h2 : z < (f + 1) * d) : f.natAbs ≤ z.natAbs := by
  have hd' : (1 : Int) ≤ d := by omega
  rcases Int.lt_or_le f 0 with hf | hf
  · have : (f + 1) * d ≤ (f + 1) * 1 := Int.mul_le_mul_of_nonpos_left (by omega) hd'
    omega
  · have : f * 1 ≤ f * d := Int.mul_le_mul_of_nonneg_left hd' hf
    omega
end Nt
theorem divide_o (va vb : Value) (a b : Nat) (w : World) (ha : Nv w va (Nt.digs a)) (hb : Nv w vb (Nt.digs b)) (sa : (Nt.digs a).length ≤ 900000) (sb : (Nt.digs b).length ≤ 900000) (h0 : b ≠ 0) :
    Calls Tryz.prog 79 #[va, vb] w fun e w' => ∃ A c A' c', e = .returned (.tuple #[.slice A (Nt.digs (a / b)).length c, .slice A' (Nt.digs (a % b)).length c']) ∧ Nv w' (.slice A (Nt.digs (a / b)).length c) (Nt.digs (a / b)) ∧ Nv w' (.slice A' (Nt.digs (a % b)).length c') (Nt.digs (a % b)) ∧ Below w.heap.size w w' := by
  refine (divide_n va vb a b w ha hb sa sb h0).mono ?_
  rintro e w' ⟨v1, v2, rfl, hv1, hv2, hb⟩
  obtain ⟨A, c, rfl, _⟩ := hv1.ex
  obtain ⟨A', c', rfl, _⟩ := hv2.ex
  exact ⟨A, c, A', c', rfl, hv1, hv2, hb⟩
theorem plus_o (va vb : Value) (a b : Nat) (w : World) (ha : Nv w va (Nt.digs a)) (hb : Nv w vb (Nt.digs b)) (sa : (Nt.digs a).length ≤ 1000000) (sb : (Nt.digs b).length ≤ 1000000) :
    Calls Tryz.prog 49 #[va, vb] w fun e w' => ∃ A c, e = .returned (.slice A (Nt.digs (a + b)).length c) ∧ Nv w' (.slice A (Nt.digs (a + b)).length c) (Nt.digs (a + b)) ∧ Below w.heap.size w w' := by
  refine (plus_n va vb a b w ha hb sa sb).mono ?_
  rintro e w' ⟨v, rfl, hv, hb⟩
  obtain ⟨A, c, rfl, _⟩ := hv.ex
  exact ⟨A, c, rfl, hv, hb⟩

end Go.Proofs.YtmapagbmihpbmaaGreatDoor
