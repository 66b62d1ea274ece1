/- The contract of exact's read. -/
import Derived.Test.YtcnlonaighlmbaaGreatDoorNatQ
import Derived.Test.YtcnlonaighlmbaaGreatDoorHaa
import Derived.Deep.RegionHeld3
import Derived.Test.YtcnlonaighlmbaaGreatDoorLoc
import Derived.Shelf.Strings.Repeat
set_option linter.unusedSimpArgs false
set_option linter.unusedVariables false
namespace Go.Proofs.YtcnlonaighlmbaaGreatDoor
open Go.RowKit

/-- The value is a number: its sign, its digits. -/
structure Nm (w : World) (x : Value) (m : Bool) (n d : Nat) : Prop where
  ex : ∃ a b, x = .agg #[.bool m, a, b] ∧ Nv w a (Nt.digs n) ∧ Nv w b (Nt.digs d)
namespace Nt
def sgn (m : Bool) : List UInt8 := if m then [45] else []
/-- The strings of a fraction, reduced. -/
structure Rd (num den : List UInt8) (m : Bool) (n d : Nat) : Prop where
  num : num = sgn m ++ Lib.decDigits n
  den : den = Lib.decDigits d
  d0 : d ≠ 0
  n0 : n = 0 → m = false
  ln : (Lib.decDigits n).length ≤ 300
  ld : (Lib.decDigits d).length ≤ 300
  g : Nat.gcd n d = 1
theorem isD_dd {n : Nat} {c : UInt8} {t : List UInt8} (h : Lib.decDigits n = c :: t) : c ≠ 45 := by
  have := allD_dd n c (by rw [h]; simp)
  rintro rfl
  exact absurd this.1 (by decide)
theorem pre_sgn (m : Bool) (n : Nat) : Lib.trimPrefix (sgn m ++ Lib.decDigits n) [45] = Lib.decDigits n ∧ Lib.hasPrefix (sgn m ++ Lib.decDigits n) [45] = m := by
  cases m with
  | true => simp [sgn, Lib.trimPrefix, Lib.hasPrefix]
  | false =>
    cases hd : Lib.decDigits n with
    | nil => exact absurd hd (dd_ne n)
    | cons c t =>
      have := isD_dd hd
      simp [sgn, Lib.trimPrefix, Lib.hasPrefix, List.isPrefixOf, Ne.symm this]
theorem pre_split (l : List UInt8) : sgn (Lib.hasPrefix l [45]) ++ Lib.trimPrefix l [45] = l := by
  unfold Lib.trimPrefix
  by_cases h : Lib.hasPrefix l [45] = true
  · rw [if_pos h, h]
    obtain ⟨t, ht⟩ := List.isPrefixOf_iff_prefix.1 h
    subst ht
    rfl
  · rw [if_neg h]
    simp at h
    rw [h]
    rfl
/-- When a fraction is read. -/
structure Ok (num den : List UInt8) : Prop where
  p : Dn (Lib.trimPrefix num [45])
  d : Dn den
  d0 : den ≠ [48]
  n0 : Lib.trimPrefix num [45] = [48] → Lib.hasPrefix num [45] = false
  ln : (Lib.trimPrefix num [45]).length ≤ 300
  ld : den.length ≤ 300
  g : Nat.gcd (dval (Lib.trimPrefix num [45])) (dval den) = 1
theorem dd_zero (n : Nat) : Lib.decDigits n = [48] ↔ n = 0 := by
  constructor
  · intro h
    have := dval_dd n
    rw [h] at this
    exact this.symm
  · rintro rfl
    exact Lib.decDigits_one (by omega)
theorem Rd.ok {num den : List UInt8} {m : Bool} {n d : Nat} (h : Rd num den m n d) : Ok num den := by
  obtain ⟨e1, e2, h0, h1, h3, h4, h5⟩ := h
  subst e1 e2
  obtain ⟨p1, p2⟩ := pre_sgn m n
  refine ⟨by rw [p1]; exact ⟨n, rfl⟩, ⟨d, rfl⟩, by rw [ne_eq, dd_zero]; exact h0, by rw [p1, p2, dd_zero]; exact h1, by rw [p1]; exact h3, h4, by rw [p1, dval_dd, dval_dd]; exact h5⟩
theorem Ok.rd {num den : List UInt8} (h : Ok num den) : Rd num den (Lib.hasPrefix num [45]) (dval (Lib.trimPrefix num [45])) (dval den) := by
  obtain ⟨⟨n, e1⟩, ⟨d, e2⟩, h0, h1, h3, h4, h5⟩ := h
  have hp := pre_split num
  rw [e1] at h1 h3 h5 hp ⊢
  subst e2
  rw [dval_dd, dval_dd] at h5 ⊢
  exact ⟨hp.symm, rfl, by rw [ne_eq, dd_zero] at h0; exact h0, by rw [dd_zero] at h1; exact h1, h3, h4, h5⟩
theorem read_rd {num den p : List UInt8} {m : Bool} (hP : Lib.trimPrefix num [45] = p) (hM : m = Lib.hasPrefix num [45]) (h1 : Dn p) (h2 : Dn den) (h3 : den ≠ [48]) (h4 : p = [48] → m = false) (h5 : p.length ≤ 300) (h6 : den.length ≤ 300)
    (h7 : Nat.gcd (dval p) (dval den) = 1) : Rd num den m (dval p) (dval den) := by
  subst hP hM
  exact Ok.rd ⟨h1, h2, h3, h4, h5, h6, h7⟩
theorem ok_iff {num den : List UInt8} : (∃ m n d, Rd num den m n d) ↔ Ok num den := ⟨fun ⟨_, _, _, h⟩ => h.ok, fun h => ⟨_, _, _, h.rd⟩⟩
end Nt
theorem digits_t (s : ByteArray) (w : World) (hs : s.size ≤ 9223372036854775807) (h : Nt.Dn s.data.toList) : Calls Tryz.prog 88 #[.string s] w fun e w' => e = .returned (.bool true) ∧ Below w.heap.size w w' := by
  refine (digits_any s w hs).mono ?_
  rintro e w' ⟨b, rfl, hb, hB⟩
  rw [hb.2 h]
  exact ⟨rfl, hB⟩
theorem digits_f (s : ByteArray) (w : World) (hs : s.size ≤ 9223372036854775807) (h : ¬ Nt.Dn s.data.toList) : Calls Tryz.prog 88 #[.string s] w fun e w' => e = .returned (.bool false) ∧ Below w.heap.size w w' := by
  refine (digits_any s w hs).mono ?_
  rintro e w' ⟨b, rfl, hb, hB⟩
  cases b with
  | true => exact absurd (hb.1 rfl) h
  | false => exact ⟨rfl, hB⟩
theorem parse_t (q : ByteArray) (W : World) (h : Nt.Dn q.data.toList) (h3 : (q.size : Int) ≤ 300) : Calls Tryz.prog 89 #[.string q] W fun e w' => ∃ A c, e = .returned (.slice A (Nt.digs (Nt.dval q.data.toList)).length c) ∧ Nv w' (.slice A (Nt.digs (Nt.dval q.data.toList)).length c) (Nt.digs (Nt.dval q.data.toList)) ∧ Below W.heap.size W w' := by
  have e : q.data.toList.length = q.size := rfl
  refine (parse_any q _ W rfl (Nt.dn_iff.1 h).1 (by omega)).mono ?_
  rintro e w' ⟨v, rfl, hv, hb⟩
  obtain ⟨A, c, rfl, _⟩ := hv.ex
  exact ⟨A, c, rfl, hv, hb⟩
theorem Nv.apart {W : World} {v : Value} {l : List Nat} (h : Nv W v l) {z : Nat} {t : TypeId} {b : Bool} {A A' : Option Addr} {n n' c c' : Nat} (hz : Blk W z t #[.bool b, .slice A n c, .slice A' n' c']) (y0 y1 y2 : Value) : Nv (((W.setCell ⟨z, 0, none⟩ y0).setCell ⟨z, 1, none⟩ y1).setCell ⟨z, 2, none⟩ y2) v l := by
  obtain ⟨A, c, rfl, h1, h2, h0, h3⟩ := h.ex
  refine ⟨A, c, rfl, h1, h2, h0, fun hl => ?_⟩
  obtain ⟨g, o, rfl, h4, h5⟩ := h3 hl
  have hne : g ≠ z := by
    rintro rfl
    have e1 := h5 0 hl
    rw [Nat.add_zero, hz.cell] at e1
    match o, e1 with
    | 0, e1 => simp at e1
    | 1, e1 => simp at e1
    | 2, e1 => simp at e1
    | o + 3, e1 => simp at e1
  refine ⟨g, o, rfl, by simpa [World.setCell] using h4, fun i hi => ?_⟩
  rw [World.cell?_setCell_other _ _ _ _ (fun e => by have := congrArg Addr.block e; simp only at this; omega), World.cell?_setCell_other _ _ _ _ (fun e => by have := congrArg Addr.block e; simp only at this; omega), World.cell?_setCell_other _ _ _ _ (fun e => by have := congrArg Addr.block e; simp only at this; omega)]
  exact h5 i hi
theorem digs_300 {l : List UInt8} (h : Nt.Dn l) (h3 : l.length ≤ 300) : (Nt.digs (Nt.dval l)).length ≤ 900000 := by
  have h1 := Nt.dval_lt (Nt.dn_iff.1 h).1
  obtain ⟨k, hk⟩ : ∃ k, k = 34 := ⟨_, rfl⟩
  have h2 : 10 ^ l.length ≤ 10 ^ (9 * k) := Nat.pow_le_pow_right (by decide) (by omega)
  have h4 : Nt.dval l < Nt.B ^ k := Nat.lt_of_lt_of_le h1 (by
    have e : (10 : Nat) ^ (9 * k) = Nt.B ^ k := Nat.pow_mul 10 9 k
    rw [← e]
    exact h2)
  exact Nat.le_trans (Nt.digs_len h4) (by omega)
theorem digs_one : Nt.digs 1 = [1] := by
  rw [Nt.digs_pos (by decide)]
  have e : (1 : Nat) / Nt.B = 0 := by decide
  rw [e, Nt.digs_zero]
  rfl
theorem one_t (v : Value) (n : Nat) (w : World) (h : Nv w v (Nt.digs n)) (h1 : n = 1) : Calls Tryz.prog 91 #[v] w fun e w' => e = .returned (.bool true) ∧ w = w' := by
  refine (one_any v _ w h (Nt.digs_canon n).1).mono ?_
  rintro e w' ⟨rfl, hw⟩
  subst h1
  exact ⟨by rw [decide_eq_true digs_one], hw⟩
theorem one_f (v : Value) (n : Nat) (w : World) (h : Nv w v (Nt.digs n)) (h1 : n ≠ 1) : Calls Tryz.prog 91 #[v] w fun e w' => e = .returned (.bool false) ∧ w = w' := by
  refine (one_any v _ w h (Nt.digs_canon n).1).mono ?_
  rintro e w' ⟨rfl, hw⟩
  exact ⟨by rw [decide_eq_false (fun e => h1 (by have := Nt.val_digs n; rw [e] at this; exact this.symm))], hw⟩
/-- What stands in the course of read. -/
def RP (w : World) (sn sd : ByteArray) (W : World) : Prop := Blk W w.heap.size 23 #[.string sn, .string sd] ∧ Blk W (w.heap.size + 1) 60 #[.bool false, .slice none 0 0, .slice none 0 0] ∧ Below w.heap.size w W
theorem RP.step {w : World} {sn sd : ByteArray} {W W' : World} (h : RP w sn sd W) (hb : Below W.heap.size W W') : RP w sn sd W' := ⟨h.1.later hb, h.2.1.later hb, h.2.2.trans (hb.mono h.2.2.size)⟩
theorem RP.alloc {w : World} {sn sd : ByteArray} {W : World} (h : RP w sn sd W) (o : Obj) : RP w sn sd (W.alloc o) := h.step ((Below.refl _ W).alloc (Nat.le_refl _) _)
theorem RP.lt {w : World} {sn sd : ByteArray} {W : World} (h : RP w sn sd W) : w.heap.size + 1 < W.heap.size := h.2.1.lt
theorem RP.three {w : World} {sn sd : ByteArray} {W : World} (h : RP w sn sd W) {z : Nat} (hz : w.heap.size + 1 < z) (y0 y1 y2 : Value) : RP w sn sd (((W.setCell ⟨z, 0, none⟩ y0).setCell ⟨z, 1, none⟩ y1).setCell ⟨z, 2, none⟩ y2) :=
  ⟨h.1.three_far (by omega) _ _ _, h.2.1.three_far (by omega) _ _ _, below_three h.2.2 (by omega) _ _ _⟩
theorem RP.c1 {w : World} {sn sd : ByteArray} {W : World} (h : RP w sn sd W) : W.cell? ⟨w.heap.size, 1, none⟩ = some (.string sd) := h.1.cell 1
theorem RP.drew {w : World} {sn sd : ByteArray} {W : World} (h : RP w sn sd W) : RP w sn sd W.drew := ⟨h.1.drew, h.2.1.drew, Below.drew h.2.2⟩
def zeroN : Value := .agg #[.bool false, .slice none 0 0, .slice none 0 0]
/-- What read hands back. -/
def ReadRet (num den : List UInt8) (w : World) (e : Ending) (w' : World) : Prop := Below w.heap.size w w' ∧ ∃ x c, e = .returned (.tuple #[x, .int .i64 c]) ∧
  ((c = 0 ∧ ∃ m n d, Nt.Rd num den m n d ∧ Nm w' x m n d) ∨ (c ≠ 0 ∧ x = zeroN ∧ ¬ ∃ m n d, Nt.Rd num den m n d))

set_option maxRecDepth 100000 in
set_option maxHeartbeats 4000000 in
theorem read_any (sn sd : ByteArray) (w : World) (h1 : sn.size ≤ 9223372036854775807) (h2 : sd.size ≤ 9223372036854775807) :
    Calls Tryz.prog 31 #[.agg #[.string sn, .string sd]] w (ReadRet sn.data.toList sd.data.toList w) := by
  obtain ⟨m, hm⟩ : ∃ m, m = Lib.hasPrefix sn.data.toList [45] := ⟨_, rfl⟩
  obtain ⟨p, hp⟩ : ∃ p : ByteArray, p = ⟨(Lib.trimPrefix sn.data.toList [45]).toArray⟩ := ⟨_, rfl⟩
  have hcut := fun W => Tryz.strings_CutPrefix sn ⟨#[45]⟩ W
  have hpl : Lib.trimPrefix sn.data.toList [45] = p.data.toList := by rw [hp]
  have hps : p.size ≤ sn.size := by
    have e1 : p.size = (Lib.trimPrefix sn.data.toList [45]).length := by rw [hpl]; rfl
    have e2 : sn.size = sn.data.toList.length := rfl
    rw [e1, e2]
    unfold Lib.trimPrefix
    split
    · simp
    · exact Nat.le_refl _
  rw [show (⟨#[45]⟩ : ByteArray).data.toList = [45] from rfl, ← hm, ← hp] at hcut
  have HCUT := Lib.hid hcut
  have HM := Lib.hid hm
  have HP := Lib.hid hpl
  clear hcut hm hpl hp
  by_cases D1 : Nt.Dn p.data.toList
  case neg =>
    have HD1 := Lib.hid fun W => digits_f p W (by omega) D1
    have HW := Lib.hid D1
    clear D1
    go_enter Tryz.func31, Tryz.ntmps31
    go_wp2_with (first | (go_at_call 87; refine (HCUT.out _).mono ?_; rintro e w1 ⟨rfl, rfl⟩) | (go_at_call 88; ((with_reducible refine (HD1.out _).mono ?_); rintro e w2 ⟨rfl, hB1⟩; have hX1 := ((Blk.new w 23 #[.string sn, .string sd]).alloc (.cells #[.bool false, .slice none 0 0, .slice none 0 0] 60)).later hB1; have HX1 := Lib.hid hX1; have hR1 := (Blk.new (w.alloc (.cells #[.string sn, .string sd] 23)) 60 #[.bool false, .slice none 0 0, .slice none 0 0]).later hB1; rw [World.size_alloc] at hR1; have HR1 := Lib.hid hR1; have hBe1 := (((Below.refl _ w).alloc (Nat.le_refl _) (.cells #[.string sn, .string sd] 23)).alloc (by simp) (.cells #[.bool false, .slice none 0 0, .slice none 0 0] 60)).trans (hB1.mono (by simp; omega)); have HBe1 := Lib.hid hBe1; clear hR1 hB1 hX1 hBe1; obtain ⟨x0, x1, -, -⟩ := HX1.out.two; obtain ⟨r0, r1, r2, f0, f1, f2⟩ := HR1.out.three; obtain ⟨-, n0, n1, n2⟩ := HR1.out.three_set (.bool false) (.slice none 0 0) (.slice none 0 0))))
    refine bodyPost_ret (v := .tuple #[zeroN, .int .i64 4]) (by simp [results, Tryz.results31, go_sem, n0, n1, n2, zeroN]) rfl ?_
    exact ⟨below_three HBe1.out (by omega) _ _ _, _, _, rfl, .inr ⟨by decide, rfl, fun h => HW.out (by rw [← HP.out]; exact (Nt.ok_iff.1 h).p)⟩⟩
  have HD1 := Lib.hid fun W => digits_t p W (by omega) D1
  by_cases D2 : Nt.Dn sd.data.toList
  case neg =>
    have HD2 := Lib.hid fun W => digits_f sd W h2 D2
    have HW := Lib.hid D2
    clear D1 D2
    go_enter Tryz.func31, Tryz.ntmps31
    go_wp2_with (first | (go_at_call 87; refine (HCUT.out _).mono ?_; rintro e w1 ⟨rfl, rfl⟩) | (go_at_call 88; first | ((with_reducible refine (HD1.out _).mono ?_); rintro e w2 ⟨rfl, hB1⟩; have hX1 := ((Blk.new w 23 #[.string sn, .string sd]).alloc (.cells #[.bool false, .slice none 0 0, .slice none 0 0] 60)).later hB1; have HX1 := Lib.hid hX1; have hR1 := (Blk.new (w.alloc (.cells #[.string sn, .string sd] 23)) 60 #[.bool false, .slice none 0 0, .slice none 0 0]).later hB1; rw [World.size_alloc] at hR1; have HR1 := Lib.hid hR1; have hBe1 := (((Below.refl _ w).alloc (Nat.le_refl _) (.cells #[.string sn, .string sd] 23)).alloc (by simp) (.cells #[.bool false, .slice none 0 0, .slice none 0 0] 60)).trans (hB1.mono (by simp; omega)); have HBe1 := Lib.hid hBe1; clear hR1 hB1 hX1 hBe1; obtain ⟨x0, x1, -, -⟩ := HX1.out.two; obtain ⟨r0, r1, r2, f0, f1, f2⟩ := HR1.out.three; obtain ⟨-, n0, n1, n2⟩ := HR1.out.three_set (.bool false) (.slice none 0 0) (.slice none 0 0)) | ((with_reducible refine (HD2.out _).mono ?_); rintro e w3 ⟨rfl, hB2⟩; have hX2 := HX1.out.later hB2; have hR2 := HR1.out.later hB2; have hBe2 := HBe1.out.trans (hB2.mono HBe1.out.size); have HX2 := Lib.hid hX2; have HR2 := Lib.hid hR2; have HBe2 := Lib.hid hBe2; clear hB2 hX2 hR2 hBe2 x0 x1 r0 r1 r2 f0 f1 f2 n0 n1 n2; obtain ⟨x0, x1, -, -⟩ := HX2.out.two; obtain ⟨r0, r1, r2, f0, f1, f2⟩ := HR2.out.three; obtain ⟨-, n0, n1, n2⟩ := HR2.out.three_set (.bool false) (.slice none 0 0) (.slice none 0 0))))
    refine bodyPost_ret (v := .tuple #[zeroN, .int .i64 4]) (by simp [results, Tryz.results31, go_sem, n0, n1, n2, zeroN]) rfl ?_
    exact ⟨below_three HBe2.out (by omega) _ _ _, _, _, rfl, .inr ⟨by decide, rfl, fun h => HW.out (Nt.ok_iff.1 h).d⟩⟩
  have HD2 := Lib.hid fun W => digits_t sd W h2 D2
  have HDn1 := Lib.hid D1
  have HDn2 := Lib.hid D2
  clear D1 D2
  cases hz : (sd.toList == [48])
  case true =>
    have HZ := Lib.hid (show sd.data.toList = [48] by rw [Lib.toList_data] at hz; simpa using hz)
    go_enter Tryz.func31, Tryz.ntmps31
    go_wp2_with (first | (go_at_call 87; refine (HCUT.out _).mono ?_; rintro e w1 ⟨rfl, rfl⟩) | (go_at_call 88; first | ((with_reducible refine (HD1.out _).mono ?_); rintro e w2 ⟨rfl, hB1⟩; have hX1 := ((Blk.new w 23 #[.string sn, .string sd]).alloc (.cells #[.bool false, .slice none 0 0, .slice none 0 0] 60)).later hB1; have HX1 := Lib.hid hX1; have hR1 := (Blk.new (w.alloc (.cells #[.string sn, .string sd] 23)) 60 #[.bool false, .slice none 0 0, .slice none 0 0]).later hB1; rw [World.size_alloc] at hR1; have HR1 := Lib.hid hR1; have hBe1 := (((Below.refl _ w).alloc (Nat.le_refl _) (.cells #[.string sn, .string sd] 23)).alloc (by simp) (.cells #[.bool false, .slice none 0 0, .slice none 0 0] 60)).trans (hB1.mono (by simp; omega)); have HBe1 := Lib.hid hBe1; clear hR1 hB1 hX1 hBe1; obtain ⟨x0, x1, -, -⟩ := HX1.out.two; obtain ⟨r0, r1, r2, f0, f1, f2⟩ := HR1.out.three; obtain ⟨-, n0, n1, n2⟩ := HR1.out.three_set (.bool false) (.slice none 0 0) (.slice none 0 0)) | ((with_reducible refine (HD2.out _).mono ?_); rintro e w3 ⟨rfl, hB2⟩; have hX2 := HX1.out.later hB2; have hR2 := HR1.out.later hB2; have hBe2 := HBe1.out.trans (hB2.mono HBe1.out.size); have HX2 := Lib.hid hX2; have HR2 := Lib.hid hR2; have HBe2 := Lib.hid hBe2; clear hB2 hX2 hR2 hBe2 x0 x1 r0 r1 r2 f0 f1 f2 n0 n1 n2; obtain ⟨x0, x1, -, -⟩ := HX2.out.two; obtain ⟨r0, r1, r2, f0, f1, f2⟩ := HR2.out.three; obtain ⟨-, n0, n1, n2⟩ := HR2.out.three_set (.bool false) (.slice none 0 0) (.slice none 0 0))))
    refine bodyPost_ret (v := .tuple #[zeroN, .int .i64 4]) (by simp [results, Tryz.results31, go_sem, n0, n1, n2, zeroN]) rfl ?_
    exact ⟨below_three HBe2.out (by omega) _ _ _, _, _, rfl, .inr ⟨by decide, rfl, fun h => (Nt.ok_iff.1 h).d0 HZ.out⟩⟩
  cases hzp : (p.toList == [48])
  case true =>
    cases m
    case true =>
      have HZ := Lib.hid (show p.data.toList = [48] by rw [Lib.toList_data] at hzp; simpa using hzp)
      go_enter Tryz.func31, Tryz.ntmps31
      go_wp2_with (first | (go_at_call 87; refine (HCUT.out _).mono ?_; rintro e w1 ⟨rfl, rfl⟩) | (go_at_call 88; first | ((with_reducible refine (HD1.out _).mono ?_); rintro e w2 ⟨rfl, hB1⟩; have hX1 := ((Blk.new w 23 #[.string sn, .string sd]).alloc (.cells #[.bool false, .slice none 0 0, .slice none 0 0] 60)).later hB1; have HX1 := Lib.hid hX1; have hR1 := (Blk.new (w.alloc (.cells #[.string sn, .string sd] 23)) 60 #[.bool false, .slice none 0 0, .slice none 0 0]).later hB1; rw [World.size_alloc] at hR1; have HR1 := Lib.hid hR1; have hBe1 := (((Below.refl _ w).alloc (Nat.le_refl _) (.cells #[.string sn, .string sd] 23)).alloc (by simp) (.cells #[.bool false, .slice none 0 0, .slice none 0 0] 60)).trans (hB1.mono (by simp; omega)); have HBe1 := Lib.hid hBe1; clear hR1 hB1 hX1 hBe1; obtain ⟨x0, x1, -, -⟩ := HX1.out.two; obtain ⟨r0, r1, r2, f0, f1, f2⟩ := HR1.out.three; obtain ⟨-, n0, n1, n2⟩ := HR1.out.three_set (.bool false) (.slice none 0 0) (.slice none 0 0)) | ((with_reducible refine (HD2.out _).mono ?_); rintro e w3 ⟨rfl, hB2⟩; have hX2 := HX1.out.later hB2; have hR2 := HR1.out.later hB2; have hBe2 := HBe1.out.trans (hB2.mono HBe1.out.size); have HX2 := Lib.hid hX2; have HR2 := Lib.hid hR2; have HBe2 := Lib.hid hBe2; clear hB2 hX2 hR2 hBe2 x0 x1 r0 r1 r2 f0 f1 f2 n0 n1 n2; obtain ⟨x0, x1, -, -⟩ := HX2.out.two; obtain ⟨r0, r1, r2, f0, f1, f2⟩ := HR2.out.three; obtain ⟨-, n0, n1, n2⟩ := HR2.out.three_set (.bool false) (.slice none 0 0) (.slice none 0 0))))
      refine bodyPost_ret (v := .tuple #[zeroN, .int .i64 4]) (by simp [results, Tryz.results31, go_sem, n0, n1, n2, zeroN]) rfl ?_
      exact ⟨below_three HBe2.out (by omega) _ _ _, _, _, rfl, .inr ⟨by decide, rfl, fun h => absurd ((Nt.ok_iff.1 h).n0 (HP.out.trans HZ.out)) (by rw [← HM.out]; decide)⟩⟩
    case false =>
      by_cases hs1 : (300 : Int) < p.size
      case pos =>
        have HZ := Lib.hid hs1
        go_enter Tryz.func31, Tryz.ntmps31
        go_wp2_with (first | (go_at_call 87; refine (HCUT.out _).mono ?_; rintro e w1 ⟨rfl, rfl⟩) | (go_at_call 88; first | ((with_reducible refine (HD1.out _).mono ?_); rintro e w2 ⟨rfl, hB1⟩; have hX1 := ((Blk.new w 23 #[.string sn, .string sd]).alloc (.cells #[.bool false, .slice none 0 0, .slice none 0 0] 60)).later hB1; have HX1 := Lib.hid hX1; have hR1 := (Blk.new (w.alloc (.cells #[.string sn, .string sd] 23)) 60 #[.bool false, .slice none 0 0, .slice none 0 0]).later hB1; rw [World.size_alloc] at hR1; have HR1 := Lib.hid hR1; have hBe1 := (((Below.refl _ w).alloc (Nat.le_refl _) (.cells #[.string sn, .string sd] 23)).alloc (by simp) (.cells #[.bool false, .slice none 0 0, .slice none 0 0] 60)).trans (hB1.mono (by simp; omega)); have HBe1 := Lib.hid hBe1; clear hR1 hB1 hX1 hBe1; obtain ⟨x0, x1, -, -⟩ := HX1.out.two; obtain ⟨r0, r1, r2, f0, f1, f2⟩ := HR1.out.three; obtain ⟨-, n0, n1, n2⟩ := HR1.out.three_set (.bool false) (.slice none 0 0) (.slice none 0 0)) | ((with_reducible refine (HD2.out _).mono ?_); rintro e w3 ⟨rfl, hB2⟩; have hX2 := HX1.out.later hB2; have hR2 := HR1.out.later hB2; have hBe2 := HBe1.out.trans (hB2.mono HBe1.out.size); have HX2 := Lib.hid hX2; have HR2 := Lib.hid hR2; have HBe2 := Lib.hid hBe2; clear hB2 hX2 hR2 hBe2 x0 x1 r0 r1 r2 f0 f1 f2 n0 n1 n2; obtain ⟨x0, x1, -, -⟩ := HX2.out.two; obtain ⟨r0, r1, r2, f0, f1, f2⟩ := HR2.out.three; obtain ⟨-, n0, n1, n2⟩ := HR2.out.three_set (.bool false) (.slice none 0 0) (.slice none 0 0))))
        refine bodyPost_ret (v := .tuple #[zeroN, .int .i64 3]) (by simp [results, Tryz.results31, go_sem, n0, n1, n2, zeroN]) rfl ?_
        exact ⟨below_three HBe2.out (by omega) _ _ _, _, _, rfl, .inr ⟨by decide, rfl, fun h => absurd (Nt.ok_iff.1 h).ln (by rw [HP.out]; have e : p.data.toList.length = p.size := rfl; have := HZ.out; omega)⟩⟩
      by_cases hs2 : (300 : Int) < sd.size
      case pos =>
        have HZ := Lib.hid hs2
        go_enter Tryz.func31, Tryz.ntmps31
        go_wp2_with (first | (go_at_call 87; refine (HCUT.out _).mono ?_; rintro e w1 ⟨rfl, rfl⟩) | (go_at_call 88; first | ((with_reducible refine (HD1.out _).mono ?_); rintro e w2 ⟨rfl, hB1⟩; have hX1 := ((Blk.new w 23 #[.string sn, .string sd]).alloc (.cells #[.bool false, .slice none 0 0, .slice none 0 0] 60)).later hB1; have HX1 := Lib.hid hX1; have hR1 := (Blk.new (w.alloc (.cells #[.string sn, .string sd] 23)) 60 #[.bool false, .slice none 0 0, .slice none 0 0]).later hB1; rw [World.size_alloc] at hR1; have HR1 := Lib.hid hR1; have hBe1 := (((Below.refl _ w).alloc (Nat.le_refl _) (.cells #[.string sn, .string sd] 23)).alloc (by simp) (.cells #[.bool false, .slice none 0 0, .slice none 0 0] 60)).trans (hB1.mono (by simp; omega)); have HBe1 := Lib.hid hBe1; clear hR1 hB1 hX1 hBe1; obtain ⟨x0, x1, -, -⟩ := HX1.out.two; obtain ⟨r0, r1, r2, f0, f1, f2⟩ := HR1.out.three; obtain ⟨-, n0, n1, n2⟩ := HR1.out.three_set (.bool false) (.slice none 0 0) (.slice none 0 0)) | ((with_reducible refine (HD2.out _).mono ?_); rintro e w3 ⟨rfl, hB2⟩; have hX2 := HX1.out.later hB2; have hR2 := HR1.out.later hB2; have hBe2 := HBe1.out.trans (hB2.mono HBe1.out.size); have HX2 := Lib.hid hX2; have HR2 := Lib.hid hR2; have HBe2 := Lib.hid hBe2; clear hB2 hX2 hR2 hBe2 x0 x1 r0 r1 r2 f0 f1 f2 n0 n1 n2; obtain ⟨x0, x1, -, -⟩ := HX2.out.two; obtain ⟨r0, r1, r2, f0, f1, f2⟩ := HR2.out.three; obtain ⟨-, n0, n1, n2⟩ := HR2.out.three_set (.bool false) (.slice none 0 0) (.slice none 0 0))))
        refine bodyPost_ret (v := .tuple #[zeroN, .int .i64 3]) (by simp [results, Tryz.results31, go_sem, n0, n1, n2, zeroN]) rfl ?_
        exact ⟨below_three HBe2.out (by omega) _ _ _, _, _, rfl, .inr ⟨by decide, rfl, fun h => absurd (Nt.ok_iff.1 h).ld (by have e : sd.data.toList.length = sd.size := rfl; have := HZ.out; omega)⟩⟩
      have HPA1 := Lib.hid fun W => parse_t p W HDn1.out (by omega)
      have HPA2 := Lib.hid fun W => parse_t sd W HDn2.out (by omega)
      go_enter Tryz.func31, Tryz.ntmps31
      go_upto_region 6 with (first | (go_at_call 87; refine (HCUT.out _).mono ?_; rintro e w1 ⟨rfl, rfl⟩) | (go_at_call 88; first | ((with_reducible refine (HD1.out _).mono ?_); rintro e w2 ⟨rfl, hB1⟩; have hX1 := ((Blk.new w 23 #[.string sn, .string sd]).alloc (.cells #[.bool false, .slice none 0 0, .slice none 0 0] 60)).later hB1; have HX1 := Lib.hid hX1; have hR1 := (Blk.new (w.alloc (.cells #[.string sn, .string sd] 23)) 60 #[.bool false, .slice none 0 0, .slice none 0 0]).later hB1; rw [World.size_alloc] at hR1; have HR1 := Lib.hid hR1; have hBe1 := (((Below.refl _ w).alloc (Nat.le_refl _) (.cells #[.string sn, .string sd] 23)).alloc (by simp) (.cells #[.bool false, .slice none 0 0, .slice none 0 0] 60)).trans (hB1.mono (by simp; omega)); have HBe1 := Lib.hid hBe1; clear hR1 hB1 hX1 hBe1; obtain ⟨x0, x1, -, -⟩ := HX1.out.two; obtain ⟨r0, r1, r2, f0, f1, f2⟩ := HR1.out.three; obtain ⟨-, n0, n1, n2⟩ := HR1.out.three_set (.bool false) (.slice none 0 0) (.slice none 0 0)) | ((with_reducible refine (HD2.out _).mono ?_); rintro e w3 ⟨rfl, hB2⟩; have hX2 := HX1.out.later hB2; have hR2 := HR1.out.later hB2; have hBe2 := HBe1.out.trans (hB2.mono HBe1.out.size); have HX2 := Lib.hid hX2; have HR2 := Lib.hid hR2; have HBe2 := Lib.hid hBe2; clear hB2 hX2 hR2 hBe2 x0 x1 r0 r1 r2 f0 f1 f2 n0 n1 n2; obtain ⟨x0, x1, -, -⟩ := HX2.out.two; obtain ⟨r0, r1, r2, f0, f1, f2⟩ := HR2.out.three; obtain ⟨-, n0, n1, n2⟩ := HR2.out.three_set (.bool false) (.slice none 0 0) (.slice none 0 0))))
      go_cut [6] (fun v wx => ∃ z A1 c1 A2 c2, v = .pointer (some ⟨z, 0, none⟩) ∧ Blk wx z 60 #[.bool false, .slice A1 (Nt.digs (Nt.dval p.data.toList)).length c1, .slice A2 (Nt.digs (Nt.dval sd.data.toList)).length c2] ∧ Nv wx (.slice A1 (Nt.digs (Nt.dval p.data.toList)).length c1) (Nt.digs (Nt.dval p.data.toList)) ∧ Nv wx (.slice A2 (Nt.digs (Nt.dval sd.data.toList)).length c2) (Nt.digs (Nt.dval sd.data.toList)) ∧ Blk wx (w.heap.size + 1) 60 #[.bool false, .slice none 0 0, .slice none 0 0] ∧ Below w.heap.size w wx ∧ w.heap.size + 1 < z)
      case first =>
        have hP3 : RP w sn sd w3 := ⟨HX2.out, HR2.out, HBe2.out⟩
        have hz3 : Blk (w3.alloc (.cells #[.bool false, .slice none 0 0, .slice none 0 0] 60)).drew w3.heap.size 60 #[.bool false, .slice none 0 0, .slice none 0 0] := (Blk.new w3 60 #[.bool false, .slice none 0 0, .slice none 0 0]).drew
        have HZ3 := Lib.hid hz3
        clear hz3
        have HP3 := Lib.hid hP3
        have l3 : w.heap.size + 1 < w3.heap.size := hP3.lt
        clear hP3 r0 r1 r2 f0 f1 f2 n0 n1 n2
        go_region_held3 (fun w' => w'.cell? ⟨w.heap.size, 1, none⟩ = some (.string sd)) (first | assumption | (with_reducible exact x1) | (with_reducible exact (HP5.out.alloc _).c1) | (with_reducible exact (HP4.out.alloc _).c1) | (with_reducible exact (HP3.out.alloc _).c1) | (with_reducible exact (HP3.out.alloc _).drew.c1) | (with_reducible exact HP3.out.drew.c1) | (with_reducible exact ((HP5.out.alloc _).three l5 _ _ _).c1) | (with_reducible exact (HP5.out.three l4 _ _ _).c1) | (with_reducible exact (HP5.out.three l3 _ _ _).c1)) (first | (go_at_call 89; (with_reducible refine (HPA1.out _).mono ?_); rintro e w4 ⟨A1, c1, rfl, hn1, hb1⟩; (try ((with_reducible have hq := HZ3.out.later hb1); have HZ4 := Lib.hid hq; obtain ⟨z0, z1, z2, g0, g1, g2⟩ := hq.three; clear hq)); have hP4 : RP w sn sd w4 := (by first | (with_reducible exact HP3.out.drew.step hb1) | (with_reducible exact (HP3.out.alloc _).drew.step hb1)); have HP4 := Lib.hid hP4; have l4 := hP4.lt; have y1 := hP4.c1; have HN4 := Lib.hid hn1; clear hP4 hb1 hn1) | (go_at_call 89; (with_reducible refine (HPA2.out _).mono ?_); rintro e w5 ⟨A2, c2, rfl, hn2, hb2⟩; (first | ((with_reducible have hq := (Blk.new w4 60 #[.bool false, .slice none 0 0, .slice none 0 0]).later hb2); have HZ5 := Lib.hid hq; obtain ⟨z0, z1, z2, g0, g1, g2⟩ := hq.three; clear hq) | ((with_reducible have hq := HZ4.out.later hb2); have HZ5 := Lib.hid hq; clear z0 z1 z2 g0 g1 g2; obtain ⟨z0, z1, z2, g0, g1, g2⟩ := hq.three; clear hq) | skip); have hP5 : RP w sn sd w5 := (by first | (with_reducible exact HP4.out.step hb2) | (with_reducible exact (HP4.out.alloc _).step hb2)); have HP5 := Lib.hid hP5; have l5 := hP5.lt; have y2 := hP5.c1; have hN5 := (by first | (with_reducible exact HN4.out.below hb2) | (with_reducible exact (HN4.out.below ((Below.refl _ w4).alloc (Nat.le_refl _) _)).below hb2) : Nv w5 (.slice A1 (Nt.digs (Nt.dval p.data.toList)).length c1) (Nt.digs (Nt.dval p.data.toList))); have HN5 := Lib.hid hN5; have HM5 := Lib.hid hn2; clear hP5 hb2 hn2 hN5))
        · go_wp2_with fail
          go_meet
          exact ⟨_, A1, c1, A2, c2, rfl, Blk.new w5 _ _, HN5.out.below ((Below.refl _ w5).alloc (Nat.le_refl _) _), HM5.out.below ((Below.refl _ w5).alloc (Nat.le_refl _) _), (HP5.out.alloc _).2.1, (HP5.out.alloc _).2.2, l5⟩
        · go_wp2_with fail
          go_meet
          exact ⟨_, A1, c1, A2, c2, rfl, (HZ5.out.three_set _ _ _).1, HN5.out.apart HZ5.out _ _ _, HM5.out.apart HZ5.out _ _ _, (HP5.out.three l4 _ _ _).2.1, (HP5.out.three l4 _ _ _).2.2, l4⟩
        · go_wp2_with fail
          go_meet
          exact ⟨_, A1, c1, A2, c2, rfl, (HZ5.out.three_set _ _ _).1, HN5.out.apart HZ5.out _ _ _, HM5.out.apart HZ5.out _ _ _, (HP5.out.three l3 _ _ _).2.1, (HP5.out.three l3 _ _ _).2.2, l3⟩
      case rest =>
        obtain ⟨z, A1, c1, A2, c2, rfl, hz, hn, hd, hr, hb, hlt⟩ := hcut
        clear HPA1 HPA2 HD1 HD2 HCUT
        have HL1 := Lib.hid (digs_300 HDn1.out (by have e : p.data.toList.length = p.size := rfl; omega))
        have HL2 := Lib.hid (digs_300 HDn2.out (by have e : sd.data.toList.length = sd.size := rfl; omega))
        by_cases hg : Nat.gcd (Nt.dval p.data.toList) (Nt.dval sd.data.toList) = 1
        case pos =>
          have HG := Lib.hid hg
          obtain ⟨a0, a1, a2, -, -, -⟩ := hz.three
          have HN := Lib.hid hn
          have HDD := Lib.hid hd
          have HR := Lib.hid hr
          have HB := Lib.hid hb
          have HZb := Lib.hid hz
          clear hz hn hd hr hb hg
          go_wp2_with (first | (go_at_call 90; refine (common_any _ _ _ _ _ HN.out HDD.out HL1.out HL2.out).mono ?_; rintro e w7 ⟨v7, rfl, hn7, hb7⟩; have HN7 := Lib.hid hn7; have hz7 := HZb.out.later hb7; have hr7 := HR.out.later hb7; have hB7 := HB.out.trans (hb7.mono HB.out.size); have HB7 := Lib.hid hB7; have HR7 := Lib.hid hr7; have HNa := Lib.hid (HN.out.below hb7); have HNb := Lib.hid (HDD.out.below hb7); clear a0 a1 a2 hb7 hn7 hB7; obtain ⟨a0, a1, a2, -, -, -⟩ := hz7.three; obtain ⟨r0, r1, r2, f0, f1, f2⟩ := hr7.three; clear hz7 hr7) | (go_at_call 91; refine (one_t _ _ _ HN7.out HG.out).mono ?_; rintro e w8 ⟨rfl, rfl⟩))
          obtain ⟨-, n0, n1, n2⟩ := HR7.out.three_set (.bool false) (.slice A1 (Nt.digs (Nt.dval p.data.toList)).length c1) (.slice A2 (Nt.digs (Nt.dval sd.data.toList)).length c2)
          refine bodyPost_ret (v := .tuple #[.agg #[.bool false, (.slice A1 (Nt.digs (Nt.dval p.data.toList)).length c1), (.slice A2 (Nt.digs (Nt.dval sd.data.toList)).length c2)], .int .i64 0]) (by simp [results, Tryz.results31, go_sem, n0, n1, n2]) rfl ?_
          refine ⟨below_three HB7.out (by omega) _ _ _, _, _, rfl, .inl ⟨rfl, _, _, _, Nt.read_rd HP.out HM.out HDn1.out HDn2.out ?_ ?_ ?_ ?_ HG.out, ⟨_, _, rfl, HNa.out.apart HR7.out _ _ _, HNb.out.apart HR7.out _ _ _⟩⟩⟩
          · rw [Lib.toList_data] at hz; simpa using hz
          · exact fun _ => rfl
          · have e : p.data.toList.length = p.size := rfl
            omega
          · have e : sd.data.toList.length = sd.size := rfl
            omega
        case neg =>
          have HG := Lib.hid hg
          obtain ⟨a0, a1, a2, -, -, -⟩ := hz.three
          have HN := Lib.hid hn
          have HDD := Lib.hid hd
          have HR := Lib.hid hr
          have HB := Lib.hid hb
          have HZb := Lib.hid hz
          clear hz hn hd hr hb hg
          go_wp2_with (first | (go_at_call 90; refine (common_any _ _ _ _ _ HN.out HDD.out HL1.out HL2.out).mono ?_; rintro e w7 ⟨v7, rfl, hn7, hb7⟩; have HN7 := Lib.hid hn7; have hz7 := HZb.out.later hb7; have hr7 := HR.out.later hb7; have hB7 := HB.out.trans (hb7.mono HB.out.size); have HB7 := Lib.hid hB7; have HR7 := Lib.hid hr7; have HNa := Lib.hid (HN.out.below hb7); have HNb := Lib.hid (HDD.out.below hb7); clear a0 a1 a2 hb7 hn7 hB7; obtain ⟨a0, a1, a2, -, -, -⟩ := hz7.three; obtain ⟨r0, r1, r2, f0, f1, f2⟩ := hr7.three; clear hz7 hr7) | (go_at_call 91; refine (one_f _ _ _ HN7.out HG.out).mono ?_; rintro e w8 ⟨rfl, rfl⟩))
          obtain ⟨-, n0, n1, n2⟩ := HR7.out.three_set (.bool false) (.slice none 0 0) (.slice none 0 0)
          refine bodyPost_ret (v := .tuple #[zeroN, .int .i64 4]) (by simp [results, Tryz.results31, go_sem, n0, n1, n2, zeroN]) rfl ?_
          exact ⟨below_three HB7.out (by omega) _ _ _, _, _, rfl, .inr ⟨by decide, rfl, fun h => HG.out (by have h8 := (Nt.ok_iff.1 h).g; rw [HP.out] at h8; exact h8)⟩⟩
  case false =>
    by_cases hs1 : (300 : Int) < p.size
    case pos =>
      have HZ := Lib.hid hs1
      go_enter Tryz.func31, Tryz.ntmps31
      go_wp2_with (first | (go_at_call 87; refine (HCUT.out _).mono ?_; rintro e w1 ⟨rfl, rfl⟩) | (go_at_call 88; first | ((with_reducible refine (HD1.out _).mono ?_); rintro e w2 ⟨rfl, hB1⟩; have hX1 := ((Blk.new w 23 #[.string sn, .string sd]).alloc (.cells #[.bool false, .slice none 0 0, .slice none 0 0] 60)).later hB1; have HX1 := Lib.hid hX1; have hR1 := (Blk.new (w.alloc (.cells #[.string sn, .string sd] 23)) 60 #[.bool false, .slice none 0 0, .slice none 0 0]).later hB1; rw [World.size_alloc] at hR1; have HR1 := Lib.hid hR1; have hBe1 := (((Below.refl _ w).alloc (Nat.le_refl _) (.cells #[.string sn, .string sd] 23)).alloc (by simp) (.cells #[.bool false, .slice none 0 0, .slice none 0 0] 60)).trans (hB1.mono (by simp; omega)); have HBe1 := Lib.hid hBe1; clear hR1 hB1 hX1 hBe1; obtain ⟨x0, x1, -, -⟩ := HX1.out.two; obtain ⟨r0, r1, r2, f0, f1, f2⟩ := HR1.out.three; obtain ⟨-, n0, n1, n2⟩ := HR1.out.three_set (.bool false) (.slice none 0 0) (.slice none 0 0)) | ((with_reducible refine (HD2.out _).mono ?_); rintro e w3 ⟨rfl, hB2⟩; have hX2 := HX1.out.later hB2; have hR2 := HR1.out.later hB2; have hBe2 := HBe1.out.trans (hB2.mono HBe1.out.size); have HX2 := Lib.hid hX2; have HR2 := Lib.hid hR2; have HBe2 := Lib.hid hBe2; clear hB2 hX2 hR2 hBe2 x0 x1 r0 r1 r2 f0 f1 f2 n0 n1 n2; obtain ⟨x0, x1, -, -⟩ := HX2.out.two; obtain ⟨r0, r1, r2, f0, f1, f2⟩ := HR2.out.three; obtain ⟨-, n0, n1, n2⟩ := HR2.out.three_set (.bool false) (.slice none 0 0) (.slice none 0 0))))
      refine bodyPost_ret (v := .tuple #[zeroN, .int .i64 3]) (by simp [results, Tryz.results31, go_sem, n0, n1, n2, zeroN]) rfl ?_
      exact ⟨below_three HBe2.out (by omega) _ _ _, _, _, rfl, .inr ⟨by decide, rfl, fun h => absurd (Nt.ok_iff.1 h).ln (by rw [HP.out]; have e : p.data.toList.length = p.size := rfl; have := HZ.out; omega)⟩⟩
    by_cases hs2 : (300 : Int) < sd.size
    case pos =>
      have HZ := Lib.hid hs2
      go_enter Tryz.func31, Tryz.ntmps31
      go_wp2_with (first | (go_at_call 87; refine (HCUT.out _).mono ?_; rintro e w1 ⟨rfl, rfl⟩) | (go_at_call 88; first | ((with_reducible refine (HD1.out _).mono ?_); rintro e w2 ⟨rfl, hB1⟩; have hX1 := ((Blk.new w 23 #[.string sn, .string sd]).alloc (.cells #[.bool false, .slice none 0 0, .slice none 0 0] 60)).later hB1; have HX1 := Lib.hid hX1; have hR1 := (Blk.new (w.alloc (.cells #[.string sn, .string sd] 23)) 60 #[.bool false, .slice none 0 0, .slice none 0 0]).later hB1; rw [World.size_alloc] at hR1; have HR1 := Lib.hid hR1; have hBe1 := (((Below.refl _ w).alloc (Nat.le_refl _) (.cells #[.string sn, .string sd] 23)).alloc (by simp) (.cells #[.bool false, .slice none 0 0, .slice none 0 0] 60)).trans (hB1.mono (by simp; omega)); have HBe1 := Lib.hid hBe1; clear hR1 hB1 hX1 hBe1; obtain ⟨x0, x1, -, -⟩ := HX1.out.two; obtain ⟨r0, r1, r2, f0, f1, f2⟩ := HR1.out.three; obtain ⟨-, n0, n1, n2⟩ := HR1.out.three_set (.bool false) (.slice none 0 0) (.slice none 0 0)) | ((with_reducible refine (HD2.out _).mono ?_); rintro e w3 ⟨rfl, hB2⟩; have hX2 := HX1.out.later hB2; have hR2 := HR1.out.later hB2; have hBe2 := HBe1.out.trans (hB2.mono HBe1.out.size); have HX2 := Lib.hid hX2; have HR2 := Lib.hid hR2; have HBe2 := Lib.hid hBe2; clear hB2 hX2 hR2 hBe2 x0 x1 r0 r1 r2 f0 f1 f2 n0 n1 n2; obtain ⟨x0, x1, -, -⟩ := HX2.out.two; obtain ⟨r0, r1, r2, f0, f1, f2⟩ := HR2.out.three; obtain ⟨-, n0, n1, n2⟩ := HR2.out.three_set (.bool false) (.slice none 0 0) (.slice none 0 0))))
      refine bodyPost_ret (v := .tuple #[zeroN, .int .i64 3]) (by simp [results, Tryz.results31, go_sem, n0, n1, n2, zeroN]) rfl ?_
      exact ⟨below_three HBe2.out (by omega) _ _ _, _, _, rfl, .inr ⟨by decide, rfl, fun h => absurd (Nt.ok_iff.1 h).ld (by have e : sd.data.toList.length = sd.size := rfl; have := HZ.out; omega)⟩⟩
    have HPA1 := Lib.hid fun W => parse_t p W HDn1.out (by omega)
    have HPA2 := Lib.hid fun W => parse_t sd W HDn2.out (by omega)
    go_enter Tryz.func31, Tryz.ntmps31
    go_upto_region 6 with (first | (go_at_call 87; refine (HCUT.out _).mono ?_; rintro e w1 ⟨rfl, rfl⟩) | (go_at_call 88; first | ((with_reducible refine (HD1.out _).mono ?_); rintro e w2 ⟨rfl, hB1⟩; have hX1 := ((Blk.new w 23 #[.string sn, .string sd]).alloc (.cells #[.bool false, .slice none 0 0, .slice none 0 0] 60)).later hB1; have HX1 := Lib.hid hX1; have hR1 := (Blk.new (w.alloc (.cells #[.string sn, .string sd] 23)) 60 #[.bool false, .slice none 0 0, .slice none 0 0]).later hB1; rw [World.size_alloc] at hR1; have HR1 := Lib.hid hR1; have hBe1 := (((Below.refl _ w).alloc (Nat.le_refl _) (.cells #[.string sn, .string sd] 23)).alloc (by simp) (.cells #[.bool false, .slice none 0 0, .slice none 0 0] 60)).trans (hB1.mono (by simp; omega)); have HBe1 := Lib.hid hBe1; clear hR1 hB1 hX1 hBe1; obtain ⟨x0, x1, -, -⟩ := HX1.out.two; obtain ⟨r0, r1, r2, f0, f1, f2⟩ := HR1.out.three; obtain ⟨-, n0, n1, n2⟩ := HR1.out.three_set (.bool false) (.slice none 0 0) (.slice none 0 0)) | ((with_reducible refine (HD2.out _).mono ?_); rintro e w3 ⟨rfl, hB2⟩; have hX2 := HX1.out.later hB2; have hR2 := HR1.out.later hB2; have hBe2 := HBe1.out.trans (hB2.mono HBe1.out.size); have HX2 := Lib.hid hX2; have HR2 := Lib.hid hR2; have HBe2 := Lib.hid hBe2; clear hB2 hX2 hR2 hBe2 x0 x1 r0 r1 r2 f0 f1 f2 n0 n1 n2; obtain ⟨x0, x1, -, -⟩ := HX2.out.two; obtain ⟨r0, r1, r2, f0, f1, f2⟩ := HR2.out.three; obtain ⟨-, n0, n1, n2⟩ := HR2.out.three_set (.bool false) (.slice none 0 0) (.slice none 0 0))))
    go_cut [6] (fun v wx => ∃ z A1 c1 A2 c2, v = .pointer (some ⟨z, 0, none⟩) ∧ Blk wx z 60 #[.bool m, .slice A1 (Nt.digs (Nt.dval p.data.toList)).length c1, .slice A2 (Nt.digs (Nt.dval sd.data.toList)).length c2] ∧ Nv wx (.slice A1 (Nt.digs (Nt.dval p.data.toList)).length c1) (Nt.digs (Nt.dval p.data.toList)) ∧ Nv wx (.slice A2 (Nt.digs (Nt.dval sd.data.toList)).length c2) (Nt.digs (Nt.dval sd.data.toList)) ∧ Blk wx (w.heap.size + 1) 60 #[.bool false, .slice none 0 0, .slice none 0 0] ∧ Below w.heap.size w wx ∧ w.heap.size + 1 < z)
    case first =>
      have hP3 : RP w sn sd w3 := ⟨HX2.out, HR2.out, HBe2.out⟩
      have hz3 : Blk (w3.alloc (.cells #[.bool false, .slice none 0 0, .slice none 0 0] 60)).drew w3.heap.size 60 #[.bool false, .slice none 0 0, .slice none 0 0] := (Blk.new w3 60 #[.bool false, .slice none 0 0, .slice none 0 0]).drew
      have HZ3 := Lib.hid hz3
      clear hz3
      have HP3 := Lib.hid hP3
      have l3 : w.heap.size + 1 < w3.heap.size := hP3.lt
      clear hP3 r0 r1 r2 f0 f1 f2 n0 n1 n2
      go_region_held3 (fun w' => w'.cell? ⟨w.heap.size, 1, none⟩ = some (.string sd)) (first | assumption | (with_reducible exact x1) | (with_reducible exact (HP5.out.alloc _).c1) | (with_reducible exact (HP4.out.alloc _).c1) | (with_reducible exact (HP3.out.alloc _).c1) | (with_reducible exact (HP3.out.alloc _).drew.c1) | (with_reducible exact HP3.out.drew.c1) | (with_reducible exact ((HP5.out.alloc _).three l5 _ _ _).c1) | (with_reducible exact (HP5.out.three l4 _ _ _).c1) | (with_reducible exact (HP5.out.three l3 _ _ _).c1)) (first | (go_at_call 89; (with_reducible refine (HPA1.out _).mono ?_); rintro e w4 ⟨A1, c1, rfl, hn1, hb1⟩; (try ((with_reducible have hq := HZ3.out.later hb1); have HZ4 := Lib.hid hq; obtain ⟨z0, z1, z2, g0, g1, g2⟩ := hq.three; clear hq)); have hP4 : RP w sn sd w4 := (by first | (with_reducible exact HP3.out.drew.step hb1) | (with_reducible exact (HP3.out.alloc _).drew.step hb1)); have HP4 := Lib.hid hP4; have l4 := hP4.lt; have y1 := hP4.c1; have HN4 := Lib.hid hn1; clear hP4 hb1 hn1) | (go_at_call 89; (with_reducible refine (HPA2.out _).mono ?_); rintro e w5 ⟨A2, c2, rfl, hn2, hb2⟩; (first | ((with_reducible have hq := (Blk.new w4 60 #[.bool false, .slice none 0 0, .slice none 0 0]).later hb2); have HZ5 := Lib.hid hq; obtain ⟨z0, z1, z2, g0, g1, g2⟩ := hq.three; clear hq) | ((with_reducible have hq := HZ4.out.later hb2); have HZ5 := Lib.hid hq; clear z0 z1 z2 g0 g1 g2; obtain ⟨z0, z1, z2, g0, g1, g2⟩ := hq.three; clear hq) | skip); have hP5 : RP w sn sd w5 := (by first | (with_reducible exact HP4.out.step hb2) | (with_reducible exact (HP4.out.alloc _).step hb2)); have HP5 := Lib.hid hP5; have l5 := hP5.lt; have y2 := hP5.c1; have hN5 := (by first | (with_reducible exact HN4.out.below hb2) | (with_reducible exact (HN4.out.below ((Below.refl _ w4).alloc (Nat.le_refl _) _)).below hb2) : Nv w5 (.slice A1 (Nt.digs (Nt.dval p.data.toList)).length c1) (Nt.digs (Nt.dval p.data.toList))); have HN5 := Lib.hid hN5; have HM5 := Lib.hid hn2; clear hP5 hb2 hn2 hN5))
      · go_wp2_with fail
        go_meet
        exact ⟨_, A1, c1, A2, c2, rfl, Blk.new w5 _ _, HN5.out.below ((Below.refl _ w5).alloc (Nat.le_refl _) _), HM5.out.below ((Below.refl _ w5).alloc (Nat.le_refl _) _), (HP5.out.alloc _).2.1, (HP5.out.alloc _).2.2, l5⟩
      · go_wp2_with fail
        go_meet
        exact ⟨_, A1, c1, A2, c2, rfl, (HZ5.out.three_set _ _ _).1, HN5.out.apart HZ5.out _ _ _, HM5.out.apart HZ5.out _ _ _, (HP5.out.three l4 _ _ _).2.1, (HP5.out.three l4 _ _ _).2.2, l4⟩
      · go_wp2_with fail
        go_meet
        exact ⟨_, A1, c1, A2, c2, rfl, (HZ5.out.three_set _ _ _).1, HN5.out.apart HZ5.out _ _ _, HM5.out.apart HZ5.out _ _ _, (HP5.out.three l3 _ _ _).2.1, (HP5.out.three l3 _ _ _).2.2, l3⟩
    case rest =>
      obtain ⟨z, A1, c1, A2, c2, rfl, hz, hn, hd, hr, hb, hlt⟩ := hcut
      clear HPA1 HPA2 HD1 HD2 HCUT
      have HL1 := Lib.hid (digs_300 HDn1.out (by have e : p.data.toList.length = p.size := rfl; omega))
      have HL2 := Lib.hid (digs_300 HDn2.out (by have e : sd.data.toList.length = sd.size := rfl; omega))
      by_cases hg : Nat.gcd (Nt.dval p.data.toList) (Nt.dval sd.data.toList) = 1
      case pos =>
        have HG := Lib.hid hg
        obtain ⟨a0, a1, a2, -, -, -⟩ := hz.three
        have HN := Lib.hid hn
        have HDD := Lib.hid hd
        have HR := Lib.hid hr
        have HB := Lib.hid hb
        have HZb := Lib.hid hz
        clear hz hn hd hr hb hg
        go_wp2_with (first | (go_at_call 90; refine (common_any _ _ _ _ _ HN.out HDD.out HL1.out HL2.out).mono ?_; rintro e w7 ⟨v7, rfl, hn7, hb7⟩; have HN7 := Lib.hid hn7; have hz7 := HZb.out.later hb7; have hr7 := HR.out.later hb7; have hB7 := HB.out.trans (hb7.mono HB.out.size); have HB7 := Lib.hid hB7; have HR7 := Lib.hid hr7; have HNa := Lib.hid (HN.out.below hb7); have HNb := Lib.hid (HDD.out.below hb7); clear a0 a1 a2 hb7 hn7 hB7; obtain ⟨a0, a1, a2, -, -, -⟩ := hz7.three; obtain ⟨r0, r1, r2, f0, f1, f2⟩ := hr7.three; clear hz7 hr7) | (go_at_call 91; refine (one_t _ _ _ HN7.out HG.out).mono ?_; rintro e w8 ⟨rfl, rfl⟩))
        obtain ⟨-, n0, n1, n2⟩ := HR7.out.three_set (.bool m) (.slice A1 (Nt.digs (Nt.dval p.data.toList)).length c1) (.slice A2 (Nt.digs (Nt.dval sd.data.toList)).length c2)
        refine bodyPost_ret (v := .tuple #[.agg #[.bool m, (.slice A1 (Nt.digs (Nt.dval p.data.toList)).length c1), (.slice A2 (Nt.digs (Nt.dval sd.data.toList)).length c2)], .int .i64 0]) (by simp [results, Tryz.results31, go_sem, n0, n1, n2]) rfl ?_
        refine ⟨below_three HB7.out (by omega) _ _ _, _, _, rfl, .inl ⟨rfl, _, _, _, Nt.read_rd HP.out HM.out HDn1.out HDn2.out ?_ ?_ ?_ ?_ HG.out, ⟨_, _, rfl, HNa.out.apart HR7.out _ _ _, HNb.out.apart HR7.out _ _ _⟩⟩⟩
        · rw [Lib.toList_data] at hz; simpa using hz
        · intro e; rw [Lib.toList_data, e] at hzp; exact absurd hzp (by decide)
        · have e : p.data.toList.length = p.size := rfl
          omega
        · have e : sd.data.toList.length = sd.size := rfl
          omega
      case neg =>
        have HG := Lib.hid hg
        obtain ⟨a0, a1, a2, -, -, -⟩ := hz.three
        have HN := Lib.hid hn
        have HDD := Lib.hid hd
        have HR := Lib.hid hr
        have HB := Lib.hid hb
        have HZb := Lib.hid hz
        clear hz hn hd hr hb hg
        go_wp2_with (first | (go_at_call 90; refine (common_any _ _ _ _ _ HN.out HDD.out HL1.out HL2.out).mono ?_; rintro e w7 ⟨v7, rfl, hn7, hb7⟩; have HN7 := Lib.hid hn7; have hz7 := HZb.out.later hb7; have hr7 := HR.out.later hb7; have hB7 := HB.out.trans (hb7.mono HB.out.size); have HB7 := Lib.hid hB7; have HR7 := Lib.hid hr7; have HNa := Lib.hid (HN.out.below hb7); have HNb := Lib.hid (HDD.out.below hb7); clear a0 a1 a2 hb7 hn7 hB7; obtain ⟨a0, a1, a2, -, -, -⟩ := hz7.three; obtain ⟨r0, r1, r2, f0, f1, f2⟩ := hr7.three; clear hz7 hr7) | (go_at_call 91; refine (one_f _ _ _ HN7.out HG.out).mono ?_; rintro e w8 ⟨rfl, rfl⟩))
        obtain ⟨-, n0, n1, n2⟩ := HR7.out.three_set (.bool false) (.slice none 0 0) (.slice none 0 0)
        refine bodyPost_ret (v := .tuple #[zeroN, .int .i64 4]) (by simp [results, Tryz.results31, go_sem, n0, n1, n2, zeroN]) rfl ?_
        exact ⟨below_three HB7.out (by omega) _ _ _, _, _, rfl, .inr ⟨by decide, rfl, fun h => HG.out (by have h8 := (Nt.ok_iff.1 h).g; rw [HP.out] at h8; exact h8)⟩⟩
end Go.Proofs.YtcnlonaighlmbaaGreatDoor

namespace Go.Proofs.YtcnlonaighlmbaaGreatDoor
open Go.RowKit

theorem Nt.Rd.uniq {num den : List UInt8} {m m' : Bool} {n n' d d' : Nat} (h : Nt.Rd num den m n d) (h' : Nt.Rd num den m' n' d') : m = m' ∧ n = n' ∧ d = d' := by
  have a1 := h.num
  have a2 := h'.num
  have p1 := Nt.pre_sgn m n
  have p2 := Nt.pre_sgn m' n'
  rw [← a1] at p1
  rw [← a2] at p2
  refine ⟨p1.2.symm.trans p2.2, ?_, ?_⟩
  · have e := p1.1.symm.trans p2.1
    have := congrArg Nt.dval e
    rwa [Nt.dval_dd, Nt.dval_dd] at this
  · have e := h.den.symm.trans h'.den
    have := congrArg Nt.dval e
    rwa [Nt.dval_dd, Nt.dval_dd] at this

/-- A number, its parts laid open. -/
def NumAt (W : World) (x : Value) (m : Bool) (n d : Nat) (A1 : Option Addr) (c1 : Nat) (A2 : Option Addr) (c2 : Nat) : Prop :=
  x = .agg #[.bool m, .slice A1 (Nt.digs n).length c1, .slice A2 (Nt.digs d).length c2] ∧ Nv W (.slice A1 (Nt.digs n).length c1) (Nt.digs n) ∧ Nv W (.slice A2 (Nt.digs d).length c2) (Nt.digs d)
theorem Nm.at' {W : World} {x : Value} {m : Bool} {n d : Nat} (h : Nm W x m n d) : ∃ A1 c1 A2 c2, NumAt W x m n d A1 c1 A2 c2 := by
  obtain ⟨a, b, rfl, ha, hb⟩ := h.ex
  obtain ⟨A1, c1, rfl, _⟩ := ha.ex
  obtain ⟨A2, c2, rfl, _⟩ := hb.ex
  exact ⟨A1, c1, A2, c2, rfl, ha, hb⟩
theorem Nm.below {W W' : World} {x : Value} {m : Bool} {n d : Nat} (h : Nm W x m n d) (hb : Below W.heap.size W W') : Nm W' x m n d := by
  obtain ⟨a, b, rfl, ha, hb2⟩ := h.ex
  exact ⟨a, b, rfl, ha.below hb, hb2.below hb⟩
theorem read_ok (sn sd : ByteArray) (m : Bool) (n d : Nat) (w : World) (h1 : sn.size ≤ 9223372036854775807) (h2 : sd.size ≤ 9223372036854775807) (h : Nt.Rd sn.data.toList sd.data.toList m n d) :
    Calls Tryz.prog 31 #[.agg #[.string sn, .string sd]] w fun e w' => ∃ A1 c1 A2 c2, e = .returned (.tuple #[.agg #[.bool m, .slice A1 (Nt.digs n).length c1, .slice A2 (Nt.digs d).length c2], .int .i64 0]) ∧
      Nv w' (.slice A1 (Nt.digs n).length c1) (Nt.digs n) ∧ Nv w' (.slice A2 (Nt.digs d).length c2) (Nt.digs d) ∧ Below w.heap.size w w' := by
  refine (read_any sn sd w h1 h2).mono ?_
  rintro e w' ⟨hb, x, c, rfl, (⟨rfl, m', n', d', hr, hx⟩ | ⟨_, _, hno⟩)⟩
  · obtain ⟨rfl, rfl, rfl⟩ := h.uniq hr
    obtain ⟨A1, c1, A2, c2, rfl, g1, g2⟩ := hx.at'
    exact ⟨A1, c1, A2, c2, rfl, g1, g2, hb⟩
  · exact absurd ⟨_, _, _, h⟩ hno

end Go.Proofs.YtcnlonaighlmbaaGreatDoor

namespace Go.Proofs.YtcnlonaighlmbaaGreatDoor
open Go.RowKit

namespace Nt
/-- The text of the numerator, and of the denominator, of the reduced fraction. -/
def numT (m : Bool) (n d : Nat) : List UInt8 := if n = 0 then [48] else sgn m ++ Lib.decDigits (n / Nat.gcd n d)
def denT (n d : Nat) : List UInt8 := if n = 0 then [49] else Lib.decDigits (d / Nat.gcd n d)
end Nt
def WriteRet (m : Bool) (n d : Nat) (w : World) (e : Ending) (w' : World) : Prop := Below w.heap.size w w' ∧ ∃ sn sd : ByteArray, e = .returned (.tuple #[.agg #[.string sn, .string sd], .int .i64 0]) ∧ sn.data.toList = Nt.numT m n d ∧ sd.data.toList = Nt.denT n d

theorem divide_n (va vb : Value) (a b : Nat) (w : World) (ha : Nv w va (Nt.digs a)) (hb : Nv w vb (Nt.digs b)) (sa : (Nt.digs a).length ≤ 900000) (sb : (Nt.digs b).length ≤ 900000) (h0 : b ≠ 0) :
    Calls Tryz.prog 138 #[va, vb] w fun e w' => ∃ v1 v2, e = .returned (.tuple #[v1, v2]) ∧ Nv w' v1 (Nt.digs (a / b)) ∧ Nv w' v2 (Nt.digs (a % b)) ∧ Below w.heap.size w w' := by
  have := divide_any va vb _ _ w ha hb (Nt.digs_canon a) (Nt.digs_canon b) sa sb (by rw [Nt.val_digs]; omega)
  rwa [Nt.val_digs, Nt.val_digs] at this
/-- The text, as a string of its own. -/
theorem text_s (v : Value) (n : Nat) (w : World) (h : Nv w v (Nt.digs n)) (htab : Lib.TabIs Tryz.prog w "internal/strconv.uint64pow10" .u64 Lib.pow10Tab) :
    Calls Tryz.prog 197 #[v] w fun e w' => ∃ t : ByteArray, e = .returned (.string t) ∧ t.data.toList = Lib.decDigits n ∧ Below w.heap.size w w' := by
  refine (text_n v n w h htab).mono ?_
  rintro e w' ⟨rfl, hb⟩
  exact ⟨_, rfl, rfl, hb⟩
theorem digs_mono {a b : Nat} (h : a ≤ b) : (Nt.digs a).length ≤ (Nt.digs b).length := by
  have h1 := Nt.val_lt (Nt.digs_canon b).1
  rw [Nt.val_digs] at h1
  exact Nt.digs_len (Nat.lt_of_le_of_lt h h1)

set_option maxRecDepth 100000 in
set_option maxHeartbeats 4000000 in
theorem write_any (x : Value) (m : Bool) (n d : Nat) (w : World) (h : Nm w x m n d) (hd : d ≠ 0) (s1 : (Nt.digs n).length ≤ 900000) (s2 : (Nt.digs d).length ≤ 900000)
    (f1 : (Lib.decDigits (n / Nat.gcd n d)).length ≤ 300) (f2 : (Lib.decDigits (d / Nat.gcd n d)).length ≤ 300) (htab : Lib.TabIs Tryz.prog w "internal/strconv.uint64pow10" .u64 Lib.pow10Tab) :
    Calls Tryz.prog 165 #[x] w (WriteRet m n d w) := by
  obtain ⟨va, vb, rfl, ha, hb⟩ := h.ex
  have HA := Lib.hid ha
  have HB := Lib.hid hb
  have HT := Lib.hid (show ∀ W, Below w.heap.size w W → Lib.TabIs Tryz.prog W "internal/strconv.uint64pow10" .u64 Lib.pow10Tab from Lib.tabBelow_of_tabIs htab)
  clear htab h
  obtain ⟨A, c, rfl, -, -, -, -⟩ := ha.ex
  obtain ⟨A', c', rfl, -, -, -, -⟩ := hb.ex
  clear ha hb
  rcases Nat.eq_zero_or_pos n with h0 | hpos
  · subst h0
    have e : (Nt.digs 0).length = 0 := by rw [Nt.digs_zero]; rfl
    have hz : (((Nt.digs 0).length : Int) == 0) = true := by rw [e]; rfl
    clear e
    go_enter Tryz.func165, Tryz.ntmps165
    go_wp2_with (go_at_call 137; refine (zero_any _ _ _ _).mono ?_; rintro e w1 ⟨rfl, rfl⟩)
    refine bodyPost_ret (v := .tuple #[.agg #[.string ⟨#[48]⟩, .string ⟨#[49]⟩], .int .i64 0]) (by simp [results, Tryz.results165, go_sem]) rfl ?_
    exact ⟨((Below.refl _ w).alloc (Nat.le_refl _) _).alloc (by simp) _, _, _, rfl, rfl, rfl⟩
  have hl : (Nt.digs n).length ≠ 0 := by rw [Nt.digs_pos hpos]; simp
  have hz : (((Nt.digs n).length : Int) == 0) = false := by rw [beq_eq_false_iff_ne]; omega
  obtain ⟨g, hg⟩ : ∃ g, g = Nat.gcd n d := ⟨_, rfl⟩
  have hg0 : g ≠ 0 := by rw [hg]; exact fun e => hd (Nat.gcd_eq_zero_iff.1 e).2
  have hgl : (Nt.digs g).length ≤ 900000 := Nat.le_trans (digs_mono (by rw [hg]; exact Nat.gcd_le_left d hpos)) s1
  rw [← hg] at f1 f2
  have HG := Lib.hid hg
  have HF1 := Lib.hid f1
  have HF2 := Lib.hid f2
  have hco := fun (W : World) (hb : Below w.heap.size w W) => common_any (.slice A (Nt.digs n).length c) (.slice A' (Nt.digs d).length c') n d W (HA.out.below hb) (HB.out.below hb) s1 s2
  rw [← hg] at hco
  have HCO := Lib.hid hco
  have HDN := Lib.hid fun (W : World) (vg : Value) (h1 : Nv W (.slice A (Nt.digs n).length c) (Nt.digs n)) (h2 : Nv W vg (Nt.digs g)) => divide_n _ vg n g W h1 h2 s1 hgl hg0
  have HDD := Lib.hid fun (W : World) (vg : Value) (h1 : Nv W (.slice A' (Nt.digs d).length c') (Nt.digs d)) (h2 : Nv W vg (Nt.digs g)) => divide_n _ vg d g W h1 h2 s2 hgl hg0
  clear hco hg hg0 f1 f2 hgl hl s1 s2
  have HX0 := Lib.hid ((Blk.new w 60 #[.bool m, .slice A (Nt.digs n).length c, .slice A' (Nt.digs d).length c']).alloc (.cells #[.string ⟨#[]⟩, .string ⟨#[]⟩] 23))
  have hR0 := Blk.new (w.alloc (.cells #[.bool m, .slice A (Nt.digs n).length c, .slice A' (Nt.digs d).length c'] 60)) 23 #[.string ⟨#[]⟩, .string ⟨#[]⟩]
  rw [World.size_alloc] at hR0
  have HR0 := Lib.hid hR0
  have HBe0 := Lib.hid (((Below.refl _ w).alloc (Nat.le_refl _) (.cells #[.bool m, .slice A (Nt.digs n).length c, .slice A' (Nt.digs d).length c'] 60)).alloc (by simp) (.cells #[.string ⟨#[]⟩, .string ⟨#[]⟩] 23))
  clear hR0
  obtain ⟨x0, x1, x2, -, -, -⟩ := HX0.out.three
  obtain ⟨r0, r1, f0, f1⟩ := HR0.out.two
  have hsz : (0 : Int) ≤ 0 := Int.le_refl 0
  cases m
  case false =>
    go_enter Tryz.func165, Tryz.ntmps165
    go_wp2_with (first | (go_at_call 137; refine (zero_any _ _ _ _).mono ?_; rintro e w0 ⟨rfl, rfl⟩) | (go_at_call 90; refine (HCO.out _ (HBe0.out)).mono ?_; rintro e w1 ⟨v1, rfl, hn1, hw1⟩; have HA1 := Lib.hid ((HA.out.below HBe0.out).below hw1); have HB1 := Lib.hid ((HB.out.below HBe0.out).below hw1); have HG1 := Lib.hid hn1; have hX1 := HX0.out.later hw1; have hR1 := HR0.out.later hw1; have hB1 := HBe0.out.trans (hw1.mono HBe0.out.size); have HX1 := Lib.hid hX1; have HR1 := Lib.hid hR1; have HBe1 := Lib.hid hB1; clear hX1 hR1 hB1 x0 x1 x2 r0 r1 f0 f1; obtain ⟨x0, x1, x2, -, -, -⟩ := HX1.out.three; obtain ⟨r0, r1, f0, f1⟩ := HR1.out.two; clear hn1 hw1) | (go_at_call 138; first | ((with_reducible refine (HDN.out _ _ HA1.out HG1.out).mono ?_); rintro e w2 ⟨v2, u2, rfl, hn2, -, hw2⟩; have HB2 := Lib.hid (HB1.out.below hw2); have HG2 := Lib.hid (HG1.out.below hw2); have HN2 := Lib.hid hn2; have hX2 := HX1.out.later hw2; have hR2 := HR1.out.later hw2; have hB2 := HBe1.out.trans (hw2.mono HBe1.out.size); have HX2 := Lib.hid hX2; have HR2 := Lib.hid hR2; have HBe2 := Lib.hid hB2; clear hX2 hR2 hB2 x0 x1 x2 r0 r1 f0 f1; obtain ⟨x0, x1, x2, -, -, -⟩ := HX2.out.three; obtain ⟨r0, r1, f0, f1⟩ := HR2.out.two; clear hn2 hw2) | ((with_reducible refine (HDD.out _ _ HB2.out HG2.out).mono ?_); rintro e w3 ⟨v3, u3, rfl, hn3, -, hw3⟩; have HN3 := Lib.hid (HN2.out.below hw3); have HD3 := Lib.hid hn3; have hX3 := HX2.out.later hw3; have hR3 := HR2.out.later hw3; have hB3 := HBe2.out.trans (hw3.mono HBe2.out.size); have HX3 := Lib.hid hX3; have HR3 := Lib.hid hR3; have HBe3 := Lib.hid hB3; clear hX3 hR3 hB3 x0 x1 x2 r0 r1 f0 f1; obtain ⟨x0, x1, x2, -, -, -⟩ := HX3.out.three; obtain ⟨r0, r1, f0, f1⟩ := HR3.out.two; clear hn3 hw3)) | (go_at_call 197; first | ((with_reducible refine (text_s _ _ _ HN3.out (HT.out _ HBe3.out)).mono ?_); rintro e w4 ⟨t4, rfl, ht4, hw4⟩; have l4 : t4.size ≤ 300 := (by have h9 : t4.data.toList.length = t4.size := rfl; rw [← h9, ht4]; exact HF1.out); have HD4 := Lib.hid (HD3.out.below hw4); have HT4 := Lib.hid ht4; have hX4 := HX3.out.later hw4; have hR4 := HR3.out.later hw4; have hB4 := HBe3.out.trans (hw4.mono HBe3.out.size); have HX4 := Lib.hid hX4; have HR4 := Lib.hid hR4; have HBe4 := Lib.hid hB4; clear hX4 hR4 hB4 x0 x1 x2 r0 r1 f0 f1; obtain ⟨x0, x1, x2, -, -, -⟩ := HX4.out.three; obtain ⟨r0, r1, f0, f1⟩ := HR4.out.two; clear ht4 hw4) | ((with_reducible refine (text_s _ _ _ HD4.out (HT.out _ HBe4.out)).mono ?_); rintro e w5 ⟨t5, rfl, ht5, hw5⟩; have l5 : t5.size ≤ 300 := (by have h9 : t5.data.toList.length = t5.size := rfl; rw [← h9, ht5]; exact HF2.out); have HT5 := Lib.hid ht5; have hX5 := HX4.out.later hw5; have hR5 := HR4.out.later hw5; have hB5 := HBe4.out.trans (hw5.mono HBe4.out.size); have HX5 := Lib.hid hX5; have HR5 := Lib.hid hR5; have HBe5 := Lib.hid hB5; clear hX5 hR5 hB5 x0 x1 x2 r0 r1 f0 f1; obtain ⟨x0, x1, x2, -, -, -⟩ := HX5.out.three; obtain ⟨r0, r1, f0, f1⟩ := HR5.out.two; have y0 := (fun cs => (HX5.out.alloc (.cells cs 23)).three.1); have z0 := (fun cs => (HR5.out.alloc (.cells cs 23)).two.1); have z1 := (fun cs => (HR5.out.alloc (.cells cs 23)).two.2.1); have g0 := (fun cs => (HR5.out.alloc (.cells cs 23)).two.2.2.1); have g1 := (fun cs => (HR5.out.alloc (.cells cs 23)).two.2.2.2); clear ht5 hw5)))
    obtain ⟨-, n0, n1⟩ := (HR5.out.alloc (.cells #[.string t4, .string t5] 23)).two_set (.string t4) (.string t5)
    refine bodyPost_ret (v := .tuple #[.agg #[.string t4, .string t5], .int .i64 0]) (by simp [results, Tryz.results165, go_sem, n0, n1]) rfl ?_
    refine ⟨below_two (HBe5.out.alloc HBe5.out.size _) (by omega) _ _, _, _, rfl, ?_, ?_⟩
    · rw [HT4.out, Nt.numT, if_neg (by omega), ← HG.out]
      rfl
    · rw [HT5.out, Nt.denT, if_neg (by omega), ← HG.out]
  case true =>
    go_enter Tryz.func165, Tryz.ntmps165
    go_wp2_with (first | (go_at_call 137; refine (zero_any _ _ _ _).mono ?_; rintro e w0 ⟨rfl, rfl⟩) | (go_at_call 90; refine (HCO.out _ (HBe0.out)).mono ?_; rintro e w1 ⟨v1, rfl, hn1, hw1⟩; have HA1 := Lib.hid ((HA.out.below HBe0.out).below hw1); have HB1 := Lib.hid ((HB.out.below HBe0.out).below hw1); have HG1 := Lib.hid hn1; have hX1 := HX0.out.later hw1; have hR1 := HR0.out.later hw1; have hB1 := HBe0.out.trans (hw1.mono HBe0.out.size); have HX1 := Lib.hid hX1; have HR1 := Lib.hid hR1; have HBe1 := Lib.hid hB1; clear hX1 hR1 hB1 x0 x1 x2 r0 r1 f0 f1; obtain ⟨x0, x1, x2, -, -, -⟩ := HX1.out.three; obtain ⟨r0, r1, f0, f1⟩ := HR1.out.two; clear hn1 hw1) | (go_at_call 138; first | ((with_reducible refine (HDN.out _ _ HA1.out HG1.out).mono ?_); rintro e w2 ⟨v2, u2, rfl, hn2, -, hw2⟩; have HB2 := Lib.hid (HB1.out.below hw2); have HG2 := Lib.hid (HG1.out.below hw2); have HN2 := Lib.hid hn2; have hX2 := HX1.out.later hw2; have hR2 := HR1.out.later hw2; have hB2 := HBe1.out.trans (hw2.mono HBe1.out.size); have HX2 := Lib.hid hX2; have HR2 := Lib.hid hR2; have HBe2 := Lib.hid hB2; clear hX2 hR2 hB2 x0 x1 x2 r0 r1 f0 f1; obtain ⟨x0, x1, x2, -, -, -⟩ := HX2.out.three; obtain ⟨r0, r1, f0, f1⟩ := HR2.out.two; clear hn2 hw2) | ((with_reducible refine (HDD.out _ _ HB2.out HG2.out).mono ?_); rintro e w3 ⟨v3, u3, rfl, hn3, -, hw3⟩; have HN3 := Lib.hid (HN2.out.below hw3); have HD3 := Lib.hid hn3; have hX3 := HX2.out.later hw3; have hR3 := HR2.out.later hw3; have hB3 := HBe2.out.trans (hw3.mono HBe2.out.size); have HX3 := Lib.hid hX3; have HR3 := Lib.hid hR3; have HBe3 := Lib.hid hB3; clear hX3 hR3 hB3 x0 x1 x2 r0 r1 f0 f1; obtain ⟨x0, x1, x2, -, -, -⟩ := HX3.out.three; obtain ⟨r0, r1, f0, f1⟩ := HR3.out.two; clear hn3 hw3)) | (go_at_call 197; first | ((with_reducible refine (text_s _ _ _ HN3.out (HT.out _ HBe3.out)).mono ?_); rintro e w4 ⟨t4, rfl, ht4, hw4⟩; have l4 : t4.size ≤ 300 := (by have h9 : t4.data.toList.length = t4.size := rfl; rw [← h9, ht4]; exact HF1.out); have HD4 := Lib.hid (HD3.out.below hw4); have HT4 := Lib.hid ht4; have hX4 := HX3.out.later hw4; have hR4 := HR3.out.later hw4; have hB4 := HBe3.out.trans (hw4.mono HBe3.out.size); have HX4 := Lib.hid hX4; have HR4 := Lib.hid hR4; have HBe4 := Lib.hid hB4; clear hX4 hR4 hB4 x0 x1 x2 r0 r1 f0 f1; obtain ⟨x0, x1, x2, -, -, -⟩ := HX4.out.three; obtain ⟨r0, r1, f0, f1⟩ := HR4.out.two; clear ht4 hw4) | ((with_reducible refine (text_s _ _ _ HD4.out (HT.out _ HBe4.out)).mono ?_); rintro e w5 ⟨t5, rfl, ht5, hw5⟩; have l5 : t5.size ≤ 300 := (by have h9 : t5.data.toList.length = t5.size := rfl; rw [← h9, ht5]; exact HF2.out); have HT5 := Lib.hid ht5; have hX5 := HX4.out.later hw5; have hR5 := HR4.out.later hw5; have hB5 := HBe4.out.trans (hw5.mono HBe4.out.size); have HX5 := Lib.hid hX5; have HR5 := Lib.hid hR5; have HBe5 := Lib.hid hB5; clear hX5 hR5 hB5 x0 x1 x2 r0 r1 f0 f1; obtain ⟨x0, x1, x2, -, -, -⟩ := HX5.out.three; obtain ⟨r0, r1, f0, f1⟩ := HR5.out.two; have y0 := (fun cs => (HX5.out.alloc (.cells cs 23)).three.1); have z0 := (fun cs => (HR5.out.alloc (.cells cs 23)).two.1); have z1 := (fun cs => (HR5.out.alloc (.cells cs 23)).two.2.1); have g0 := (fun cs => (HR5.out.alloc (.cells cs 23)).two.2.2.1); have g1 := (fun cs => (HR5.out.alloc (.cells cs 23)).two.2.2.2); clear ht5 hw5)))
    obtain ⟨-, n0, n1⟩ := (HR5.out.alloc (.cells #[.string (⟨#[45]⟩ ++ t4), .string t5] 23)).two_set (.string (⟨#[45]⟩ ++ t4)) (.string t5)
    refine bodyPost_ret (v := .tuple #[.agg #[.string (⟨#[45]⟩ ++ t4), .string t5], .int .i64 0]) (by simp [results, Tryz.results165, go_sem, n0, n1]) rfl ?_
    refine ⟨below_two (HBe5.out.alloc HBe5.out.size _) (by omega) _ _, _, _, rfl, ?_, ?_⟩
    · rw [ByteArray.toList_data_append, HT4.out, Nt.numT, if_neg (by omega), ← HG.out]
      rfl
    · rw [HT5.out, Nt.denT, if_neg (by omega), ← HG.out]
end Go.Proofs.YtcnlonaighlmbaaGreatDoor

namespace Go.Proofs.YtcnlonaighlmbaaGreatDoor
open Go.RowKit

structure Fits (n d : Nat) : Prop where
  s1 : (Nt.digs n).length ≤ 900000
  s2 : (Nt.digs d).length ≤ 900000
  f1 : (Lib.decDigits (n / Nat.gcd n d)).length ≤ 300
  f2 : (Lib.decDigits (d / Nat.gcd n d)).length ≤ 300

end Go.Proofs.YtcnlonaighlmbaaGreatDoor

namespace Go.Proofs.YtcnlonaighlmbaaGreatDoor
open Go.RowKit

namespace Nt
/-- A number with its sign. -/
def zi (m : Bool) (n : Nat) : Int := if m then -(n : Int) else n
end Nt
theorem plus_n (va vb : Value) (a b : Nat) (w : World) (ha : Nv w va (Nt.digs a)) (hb : Nv w vb (Nt.digs b)) (sa : (Nt.digs a).length ≤ 1000000) (sb : (Nt.digs b).length ≤ 1000000) :
    Calls Tryz.prog 196 #[va, vb] w fun e w' => ∃ v, e = .returned v ∧ Nv w' v (Nt.digs (a + b)) ∧ Below w.heap.size w w' := by
  have := plus_any va vb _ _ w ha hb (Nt.digs_canon a) (Nt.digs_canon b) sa sb
  rwa [Nt.val_digs, Nt.val_digs] at this


/-- What stands in the course of sum: two numbers in boxes, the result's box. -/
def SP (w : World) (a0 a1 a2 b0 b1 b2 : Value) (W : World) : Prop := Blk W w.heap.size 60 #[a0, a1, a2] ∧ Blk W (w.heap.size + 1) 60 #[b0, b1, b2] ∧ Blk W (w.heap.size + 2) 60 #[.bool false, .slice none 0 0, .slice none 0 0] ∧ Below w.heap.size w W
section
variable {w W W' : World} {a0 a1 a2 b0 b1 b2 : Value}
theorem SP.step (h : SP w a0 a1 a2 b0 b1 b2 W) (hb : Below W.heap.size W W') : SP w a0 a1 a2 b0 b1 b2 W' := ⟨h.1.later hb, h.2.1.later hb, h.2.2.1.later hb, h.2.2.2.trans (hb.mono h.2.2.2.size)⟩
theorem SP.drew (h : SP w a0 a1 a2 b0 b1 b2 W) : SP w a0 a1 a2 b0 b1 b2 W.drew := ⟨h.1.drew, h.2.1.drew, h.2.2.1.drew, Below.drew h.2.2.2⟩
theorem SP.drewN (h : SP w a0 a1 a2 b0 b1 b2 W) (n : Nat) : SP w a0 a1 a2 b0 b1 b2 (W.drewN n) := ⟨h.1.drewN n, h.2.1.drewN n, h.2.2.1.drewN n, ⟨h.2.2.2.os, h.2.2.2.tape, h.2.2.2.output, h.2.2.2.size, h.2.2.2.block⟩⟩
theorem SP.cells (h : SP w a0 a1 a2 b0 b1 b2 W) : W.cell? ⟨w.heap.size, 0, none⟩ = some a0 ∧ W.cell? ⟨w.heap.size, 1, none⟩ = some a1 ∧ W.cell? ⟨w.heap.size, 2, none⟩ = some a2 ∧ W.cell? ⟨w.heap.size + 1, 0, none⟩ = some b0 ∧ W.cell? ⟨w.heap.size + 1, 1, none⟩ = some b1 ∧ W.cell? ⟨w.heap.size + 1, 2, none⟩ = some b2 :=
  ⟨h.1.cell 0, h.1.cell 1, h.1.cell 2, h.2.1.cell 0, h.2.1.cell 1, h.2.1.cell 2⟩
theorem SP.bel (h : SP w a0 a1 a2 b0 b1 b2 W) : Below w.heap.size w W := h.2.2.2
theorem SP.ld (h : SP w a0 a1 a2 b0 b1 b2 W) : W.cell? ⟨w.heap.size, 1, none⟩ = some a1 ∧ W.cell? ⟨w.heap.size, 2, none⟩ = some a2 ∧ W.cell? ⟨w.heap.size + 1, 1, none⟩ = some b1 ∧ W.cell? ⟨w.heap.size + 1, 2, none⟩ = some b2 :=
  ⟨h.1.cell 1, h.1.cell 2, h.2.1.cell 1, h.2.1.cell 2⟩
theorem SP.new (w : World) (a0 a1 a2 b0 b1 b2 : Value) : SP w a0 a1 a2 b0 b1 b2 (((w.alloc (.cells #[a0, a1, a2] 60)).alloc (.cells #[b0, b1, b2] 60)).alloc (.cells #[.bool false, .slice none 0 0, .slice none 0 0] 60)) := by
  refine ⟨((Blk.new w _ _).alloc _).alloc _, ?_, ?_, (((Below.refl _ w).alloc (Nat.le_refl _) _).alloc (by simp) _).alloc (by simp; omega) _⟩
  · have := (Blk.new (w.alloc (.cells #[a0, a1, a2] 60)) 60 #[b0, b1, b2]).alloc (.cells #[.bool false, .slice none 0 0, .slice none 0 0] 60)
    rw [World.size_alloc] at this
    exact this
  · have := Blk.new ((w.alloc (.cells #[a0, a1, a2] 60)).alloc (.cells #[b0, b1, b2] 60)) 60 #[.bool false, .slice none 0 0, .slice none 0 0]
    rw [World.size_alloc, World.size_alloc] at this
    exact this
end

end Go.Proofs.YtcnlonaighlmbaaGreatDoor

namespace Go.Proofs.YtcnlonaighlmbaaGreatDoor
open Go.RowKit




/-- The sign of a product. -/
theorem SP.stored {w W : World} {a0 a1 a2 b0 b1 b2 : Value} (h : SP w a0 a1 a2 b0 b1 b2 W) (y0 y1 y2 : Value) :
    (((W.setCell ⟨w.heap.size + 2, 0, none⟩ y0).setCell ⟨w.heap.size + 2, 1, none⟩ y1).setCell ⟨w.heap.size + 2, 2, none⟩ y2).cell? ⟨w.heap.size, 0, none⟩ = some a0 ∧
    (((W.setCell ⟨w.heap.size + 2, 0, none⟩ y0).setCell ⟨w.heap.size + 2, 1, none⟩ y1).setCell ⟨w.heap.size + 2, 2, none⟩ y2).cell? ⟨w.heap.size, 1, none⟩ = some a1 ∧
    (((W.setCell ⟨w.heap.size + 2, 0, none⟩ y0).setCell ⟨w.heap.size + 2, 1, none⟩ y1).setCell ⟨w.heap.size + 2, 2, none⟩ y2).cell? ⟨w.heap.size, 2, none⟩ = some a2 ∧
    (((W.setCell ⟨w.heap.size + 2, 0, none⟩ y0).setCell ⟨w.heap.size + 2, 1, none⟩ y1).setCell ⟨w.heap.size + 2, 2, none⟩ y2).cell? ⟨w.heap.size + 1, 0, none⟩ = some b0 ∧
    (((W.setCell ⟨w.heap.size + 2, 0, none⟩ y0).setCell ⟨w.heap.size + 2, 1, none⟩ y1).setCell ⟨w.heap.size + 2, 2, none⟩ y2).cell? ⟨w.heap.size + 1, 1, none⟩ = some b1 ∧
    (((W.setCell ⟨w.heap.size + 2, 0, none⟩ y0).setCell ⟨w.heap.size + 2, 1, none⟩ y1).setCell ⟨w.heap.size + 2, 2, none⟩ y2).cell? ⟨w.heap.size + 1, 2, none⟩ = some b2 :=
  have p := h.1.three_far (g := w.heap.size + 2) (by omega) y0 y1 y2
  have q := h.2.1.three_far (g := w.heap.size + 2) (by omega) y0 y1 y2
  ⟨p.cell 0, p.cell 1, p.cell 2, q.cell 0, q.cell 1, q.cell 2⟩


end Go.Proofs.YtcnlonaighlmbaaGreatDoor

namespace Go.Proofs.YtcnlonaighlmbaaGreatDoor
open Go.RowKit
namespace Nt

theorem zi_mul (m : Bool) (a b : Nat) : zi m (a * b) = zi m a * b := by
  cases m <;> simp [zi, Int.neg_mul]
theorem zi_abs (m : Bool) (n : Nat) : (zi m n).natAbs = n := by
  cases m <;> simp [zi]
theorem zi_zero (m : Bool) : zi m 0 = 0 := by cases m <;> rfl
/-- The texts stand for z / d. -/
structure Q (num den : List UInt8) (z : Int) (d : Nat) : Prop where
  d0 : d ≠ 0
  ex : ∃ m n e, Rd num den m n e ∧ zi m n * d = z * e

theorem mulc {a b c : Int} (hc : c ≠ 0) (h : a * c = b * c) : a = b := Int.eq_of_mul_eq_mul_right hc h
theorem red_eq {n e n' e' : Nat} (h1 : Nat.gcd n e = 1) (h2 : Nat.gcd n' e' = 1) (h : n * e' = n' * e) : n = n' ∧ e = e' := by
  have c1 : Nat.Coprime n e := h1
  have c2 : Nat.Coprime n' e' := h2
  refine ⟨Nat.dvd_antisymm (c1.dvd_of_dvd_mul_right (by rw [← h]; exact Nat.dvd_mul_right _ _)) (c2.dvd_of_dvd_mul_right (by rw [h]; exact Nat.dvd_mul_right _ _)),
    Nat.dvd_antisymm (c1.symm.dvd_of_dvd_mul_left (by rw [h]; exact Nat.dvd_mul_left _ _)) (c2.symm.dvd_of_dvd_mul_left (by rw [← h]; exact Nat.dvd_mul_left _ _))⟩
theorem zi_inj {m m' : Bool} {n : Nat} (h : zi m n = zi m' n) (a : n = 0 → m = false) (b : n = 0 → m' = false) : m = m' := by
  rcases Nat.eq_zero_or_pos n with h0 | h0
  · rw [a h0, b h0]
  · cases m <;> cases m' <;> simp [zi] at h ⊢ <;> omega
theorem Q.same {n1 d1 n2 d2 : List UInt8} {z z' : Int} {d d' : Nat} (h : Q n1 d1 z d) (h' : Q n2 d2 z' d') (e : z * d' = z' * d) : n1 = n2 ∧ d1 = d2 := by
  obtain ⟨m, n, p, r, q⟩ := h.ex
  obtain ⟨m', n', p', r', q'⟩ := h'.ex
  have hd : (d : Int) ≠ 0 := by have := h.d0; omega
  have hd' : (d' : Int) ≠ 0 := by have := h'.d0; omega
  have k : zi m n * p' = zi m' n' * p := by
    refine mulc hd (mulc hd' ?_)
    calc zi m n * p' * d * d' = (zi m n * d) * (p' * d') := by grind
      _ = z * p * (p' * d') := by rw [q]
      _ = (z * d') * (p * p') := by grind
      _ = (z' * d) * (p * p') := by rw [e]
      _ = (z' * p') * (p * d) := by grind
      _ = (zi m' n' * d') * (p * d) := by rw [q']
      _ = zi m' n' * p * d * d' := by grind
  have k2 := congrArg Int.natAbs k
  rw [Int.natAbs_mul, Int.natAbs_mul, zi_abs, zi_abs, Int.natAbs_natCast, Int.natAbs_natCast] at k2
  obtain ⟨rfl, rfl⟩ := red_eq r.g r'.g k2
  have hp : (p : Int) ≠ 0 := by have := r.d0; omega
  obtain rfl := zi_inj (mulc hp k) r.n0 r'.n0
  exact ⟨r.num.trans r'.num.symm, r.den.trans r'.den.symm⟩
/-- The sign, and zero. -/
theorem Q.zero {n1 d1 : List UInt8} {z : Int} {d : Nat} (h : Q n1 d1 z d) : n1 = [48] ↔ z = 0 := by
  obtain ⟨m, n, p, r, q⟩ := h.ex
  have hp : (p : Int) ≠ 0 := by have := r.d0; omega
  have hd : (d : Int) ≠ 0 := by have := h.d0; omega
  constructor
  · intro e
    have p1 := pre_sgn m n
    rw [← r.num, e] at p1
    have p2 : Lib.decDigits n = [48] := p1.1.symm.trans (by decide)
    rw [dd_zero] at p2
    subst p2
    rw [zi_zero, Int.zero_mul] at q
    rcases Int.mul_eq_zero.1 q.symm with h0 | h0
    · exact h0
    · exact absurd h0 hp
  · rintro rfl
    rw [Int.zero_mul] at q
    rcases Int.mul_eq_zero.1 q with h0 | h0
    · have h1 := congrArg Int.natAbs h0
      rw [zi_abs] at h1
      have h2 : n = 0 := by simpa using h1
      subst h2
      rw [r.num, r.n0 rfl, (dd_zero 0).2 rfl]
      rfl
    · exact absurd h0 hd
theorem Q.neg {n1 d1 : List UInt8} {z : Int} {d : Nat} (h : Q n1 d1 z d) : Lib.hasPrefix n1 [45] = decide (z < 0) := by
  obtain ⟨m, n, p, r, q⟩ := h.ex
  have hp : (0 : Int) < p := by have := r.d0; omega
  have hd : (0 : Int) < d := by have := h.d0; omega
  have p1 := (pre_sgn m n).2
  rw [← r.num] at p1
  rw [p1]
  have hn0 := r.n0
  cases m with
  | false =>
    have h1 : 0 ≤ zi false n * d := Int.mul_nonneg (by simp [zi]) (Int.le_of_lt hd)
    rw [q] at h1
    symm
    rw [decide_eq_false_iff_not, Int.not_lt]
    exact Int.le_of_mul_le_mul_right (by simpa using h1) hp
  | true =>
    have hn : 0 < n := Nat.pos_of_ne_zero fun e => by have := hn0 e; cases this
    have h1 : zi true n * d < 0 := Int.mul_neg_of_neg_of_pos (by simp [zi]; omega) hd
    rw [q] at h1
    symm
    rw [decide_eq_true_eq]
    by_cases hz : z < 0
    · exact hz
    · exact absurd h1 (Int.not_lt.2 (Int.mul_nonneg (Int.not_lt.1 hz) (Int.le_of_lt hp)))
/-- What is written is read. -/
theorem rd_w (m : Bool) (n d : Nat) (hd : d ≠ 0) (f1 : (Lib.decDigits (n / Nat.gcd n d)).length ≤ 300) (f2 : (Lib.decDigits (d / Nat.gcd n d)).length ≤ 300) : Q (numT m n d) (denT n d) (zi m n) d := by
  refine ⟨hd, ?_⟩
  by_cases h0 : n = 0
  · subst h0
    refine ⟨false, 0, 1, ⟨?_, ?_, by decide, fun _ => rfl, by rw [(dd_zero 0).2 rfl]; decide, ?_, by decide⟩, ?_⟩
    · rw [numT, if_pos rfl, (dd_zero 0).2 rfl]; rfl
    · rw [denT, if_pos rfl, Lib.decDigits_one (by decide)]; rfl
    · rw [Lib.decDigits_one (by decide)]; decide
    · rw [zi_zero, zi_zero, Int.zero_mul, Int.zero_mul]
  · have hg : 0 < Nat.gcd n d := Nat.gcd_pos_of_pos_left d (by omega)
    obtain ⟨g, hge⟩ : ∃ g, g = Nat.gcd n d := ⟨_, rfl⟩
    have hn : g ∣ n := hge ▸ Nat.gcd_dvd_left n d
    have hdd : g ∣ d := hge ▸ Nat.gcd_dvd_right n d
    have hcop := Nat.coprime_div_gcd_div_gcd (m := n) (n := d) hg
    rw [numT, denT, if_neg h0, if_neg h0]
    rw [← hge] at f1 f2 hg hcop ⊢
    obtain ⟨a, rfl⟩ := hn
    obtain ⟨b, rfl⟩ := hdd
    rw [Nat.mul_div_cancel_left _ hg] at f1 hcop ⊢
    rw [Nat.mul_div_cancel_left _ hg] at f2 hcop ⊢
    refine ⟨m, a, b, ⟨rfl, rfl, fun e => hd (by rw [e, Nat.mul_zero]), fun e => absurd (by rw [e, Nat.mul_zero]) h0, f1, f2, hcop⟩, ?_⟩
    rw [Nat.mul_comm g a, zi_mul]
    have : ((g * b : Nat) : Int) = g * b := by simp
    rw [this, Int.mul_assoc]
/-- A fraction reduced is no longer than another text of it. -/
theorem red_le {m : Bool} {n p d : Nat} {z : Int} {k : Nat} (hp : p ≠ 0) (hd : d ≠ 0) (h : zi m n * d = z * p) (hz : z.natAbs ≤ 10 ^ k) (hd1 : d ≤ 10 ^ k) (hk : k ≤ 299) :
    (Lib.decDigits (n / Nat.gcd n p)).length ≤ 300 ∧ (Lib.decDigits (p / Nat.gcd n p)).length ≤ 300 := by
  obtain ⟨g, hge⟩ : ∃ g, g = Nat.gcd n p := ⟨_, rfl⟩
  have hg : 0 < Nat.gcd n p := Nat.gcd_pos_of_pos_right n (by omega)
  have hn : g ∣ n := hge ▸ Nat.gcd_dvd_left n p
  have hdd : g ∣ p := hge ▸ Nat.gcd_dvd_right n p
  have hcop := Nat.coprime_div_gcd_div_gcd (m := n) (n := p) hg
  rw [← hge] at hg hcop ⊢
  obtain ⟨a, rfl⟩ := hn
  obtain ⟨b, rfl⟩ := hdd
  rw [Nat.mul_div_cancel_left _ hg, Nat.mul_div_cancel_left _ hg] at hcop
  rw [Nat.mul_div_cancel_left _ hg, Nat.mul_div_cancel_left _ hg]
  have h1 := congrArg Int.natAbs h
  rw [Int.natAbs_mul, Int.natAbs_mul, zi_abs, Int.natAbs_natCast, Int.natAbs_natCast] at h1
  have h2 : a * d = z.natAbs * b := by
    have h3 : g * (a * d) = g * (z.natAbs * b) := by
      calc g * (a * d) = g * a * d := by rw [Nat.mul_assoc]
        _ = z.natAbs * (g * b) := h1
        _ = g * (z.natAbs * b) := by grind
    exact Nat.eq_of_mul_eq_mul_left hg h3
  have hcop' : Nat.Coprime a b := hcop
  have ha : a ∣ z.natAbs := hcop'.dvd_of_dvd_mul_right (by rw [← h2]; exact Nat.dvd_mul_right _ _)
  have hb : b ∣ d := hcop'.symm.dvd_of_dvd_mul_left (by rw [h2]; exact Nat.dvd_mul_left _ _)
  have hk1 : 10 ^ k < 10 ^ (k + 1) := Nat.pow_lt_pow_right (by decide) (by omega)
  have hb1 : b ≤ 10 ^ k := Nat.le_trans (Nat.le_of_dvd (by omega) hb) hd1
  have ha1 : a ≤ 10 ^ k := by
    by_cases h0 : z.natAbs = 0
    · rw [h0, Nat.zero_mul] at h2
      rcases Nat.mul_eq_zero.1 h2 with h3 | h3
      · rw [h3]; exact Nat.zero_le _
      · exact absurd h3 hd
    · exact Nat.le_trans (Nat.le_of_dvd (by omega) ha) hz
  exact ⟨Nat.le_trans (dd_le (Nat.lt_of_le_of_lt ha1 hk1)) (by omega), Nat.le_trans (dd_le (Nat.lt_of_le_of_lt hb1 hk1)) (by omega)⟩
/-- The texts stand for z / d, which is written with at most k digits. -/
structure Qk (num den : List UInt8) (z : Int) (d k : Nat) : Prop where
  q : Q num den z d
  zk : z.natAbs ≤ 10 ^ k
  dk : d ≤ 10 ^ k
theorem Qk.ln {num den : List UInt8} {z : Int} {d k : Nat} (h : Qk num den z d k) : num.length ≤ 301 ∧ den.length ≤ 300 := by
  obtain ⟨m, n, p, r, q⟩ := h.q.ex
  have h1 := r.ln
  have h2 := r.ld
  rw [r.num, r.den]
  refine ⟨?_, h2⟩
  rw [List.length_append]
  cases m <;> simp [sgn] <;> omega
theorem dd_lt (n : Nat) : n < 10 ^ (Lib.decDigits n).length := by
  have := dval_lt (allD_dd n)
  rwa [dval_dd] at this
theorem Rd.qk {num den : List UInt8} {m : Bool} {n d : Nat} (h : Rd num den m n d) (h1 : num.length ≤ 40) (h2 : den.length ≤ 40) : Qk num den (zi m n) d 40 := by
  refine ⟨⟨h.d0, m, n, d, h, rfl⟩, ?_, ?_⟩
  · rw [zi_abs]
    have e := h.num
    have h3 : (Lib.decDigits n).length ≤ 40 := by rw [e, List.length_append] at h1; omega
    exact Nat.le_of_lt (Nat.lt_of_lt_of_le (dd_lt n) (Nat.pow_le_pow_right (by decide) h3))
  · have e := h.den
    rw [e] at h2
    exact Nat.le_of_lt (Nat.lt_of_lt_of_le (dd_lt d) (Nat.pow_le_pow_right (by decide) h2))
/-- What is written of m, n, p, which is z / d. -/
theorem w_qk {m : Bool} {n p d k : Nat} {z : Int} (hp : p ≠ 0) (hd : d ≠ 0) (h : zi m n * d = z * p) (hz : z.natAbs ≤ 10 ^ k) (hd1 : d ≤ 10 ^ k) (hk : k ≤ 299) : Qk (numT m n p) (denT n p) z d k := by
  obtain ⟨f1, f2⟩ := red_le hp hd h hz hd1 hk
  have hq := rd_w m n p hp f1 f2
  refine ⟨⟨hd, ?_⟩, hz, hd1⟩
  obtain ⟨m', n', e, r, q⟩ := hq.ex
  refine ⟨m', n', e, r, ?_⟩
  have hp' : (p : Int) ≠ 0 := by omega
  refine mulc hp' ?_
  calc zi m' n' * d * p = (zi m' n' * p) * d := by grind
    _ = zi m n * e * d := by rw [q]
    _ = (zi m n * d) * e := by grind
    _ = z * p * e := by rw [h]
    _ = z * e * p := by grind
end Nt
end Go.Proofs.YtcnlonaighlmbaaGreatDoor

namespace Go.Proofs.YtcnlonaighlmbaaGreatDoor
open Go.RowKit

theorem digs_pow {n j : Nat} (h : n < Nt.B ^ j) : (Nt.digs n).length ≤ j := Nt.digs_len h
theorem lt_pow34 {n : Nat} (h : (Lib.decDigits n).length ≤ 300) : n < Nt.B ^ 34 := by
  have h1 := Nt.dd_lt n
  obtain ⟨k, hk⟩ : ∃ k, k = 34 := ⟨_, rfl⟩
  rw [← hk]
  have h2 : 10 ^ (Lib.decDigits n).length ≤ 10 ^ (9 * k) := Nat.pow_le_pow_right (by decide) (by omega)
  have e : (10 : Nat) ^ (9 * k) = Nt.B ^ k := Nat.pow_mul 10 9 k
  rw [← e]
  exact Nat.lt_of_lt_of_le h1 h2
namespace Nt
end Nt
/-- What an operation hands back: the texts of z / d. -/
def QRet (z : Int) (d k : Nat) (w : World) (e : Ending) (w' : World) : Prop :=
  ∃ sn sd : ByteArray, e = .returned (.tuple #[.agg #[.string sn, .string sd], .int .i64 0]) ∧ Nt.Qk sn.data.toList sd.data.toList z d k ∧ Below w.heap.size w w'
theorem fits_of {m : Bool} {n p d k : Nat} {z : Int} (hp : p ≠ 0) (hd : d ≠ 0) (h : Nt.zi m n * d = z * p) (hz : z.natAbs ≤ 10 ^ k) (hd1 : d ≤ 10 ^ k) (hk : k ≤ 299) {i : Nat} (hi : i ≤ 900000) (hn : n < Nt.B ^ i) (hpp : p < Nt.B ^ i) : Fits n p := by
  obtain ⟨f1, f2⟩ := Nt.red_le hp hd h hz hd1 hk
  exact ⟨Nat.le_trans (digs_pow hn) hi, Nat.le_trans (digs_pow hpp) hi, f1, f2⟩
theorem size_of {t : ByteArray} {k : Nat} (h : t.data.toList.length ≤ k) (hk : k ≤ 301) : t.size ≤ 9223372036854775807 := by
  have : t.data.toList.length = t.size := rfl
  omega








end Go.Proofs.YtcnlonaighlmbaaGreatDoor

namespace Go.Proofs.YtcnlonaighlmbaaGreatDoor
open Go.RowKit
namespace Nt
end Nt
theorem ba_ext {a b : ByteArray} (h : a.data.toList = b.data.toList) : a = b := by
  obtain ⟨⟨a⟩⟩ := a
  obtain ⟨⟨b⟩⟩ := b
  simp at h
  rw [h]
/-- Of: a small number. -/
theorem of_nat (n : Nat) (w : World) (hn : n ≤ 100000) (htab : Lib.TabIs Tryz.prog w "internal/strconv.uint64pow10" .u64 Lib.pow10Tab) :
    Calls Tryz.prog 34 #[.int .i64 (n : Int)] w fun e w' => ∃ t : ByteArray, e = .returned (.agg #[.string t, .string ⟨#[49]⟩]) ∧ t.data.toList = Lib.decDigits n ∧ Below w.heap.size w w' := by
  have HT := Lib.hid (Lib.tabBelow_of_tabIs htab)
  have HI := Lib.hid (show ∀ W, Below w.heap.size w W → Calls Tryz.prog 97 #[.int .i64 (n : Int)] W fun e w' => ∃ t : ByteArray, e = .returned (.string t) ∧ t.data.toList = Lib.decDigits n ∧ Below W.heap.size W w' from fun W hW => by
    refine (Tryz.strconv_Itoa (n : Int) (by omega) (by omega) W (HT.out W hW)).mono ?_
    rintro e w' ⟨rfl, k, os, rfl⟩
    exact ⟨_, rfl, by rw [Lib.itoa_nonneg], Lib.below_grow _ W (Nat.le_refl _) k os⟩)
  clear htab
  have HL0 := Lib.hid ((Loc.start w).alloc' rfl 23 #[.string ⟨#[]⟩, .string ⟨#[]⟩])
  go_enter Tryz.func34, Tryz.ntmps34
  go_wp2_with (go_at_call 97; refine (HI.out _ HL0.out.bel).mono ?_; rintro e w2 ⟨t, rfl, ht, hb⟩; have hl := HL0.out.step hb; have HL1 := Lib.hid hl; obtain ⟨x0, x1, f0, f1⟩ := (hl.blk (g := w.heap.size) (t := 23) (cs := #[.string ⟨#[]⟩, .string ⟨#[]⟩]) (by simp)).two; clear hl; have HTT := Lib.hid ht; clear ht)
  have bl := HL1.out.blk (g := w.heap.size) (t := 23) (cs := #[.string ⟨#[]⟩, .string ⟨#[]⟩]) (by simp)
  obtain ⟨-, q0, q1⟩ := bl.two_set (.string t) (.string ⟨#[49]⟩)
  refine bodyPost_ret (v := .agg #[.string t, .string ⟨#[49]⟩]) (by simp [results, Tryz.results34, go_sem, q0, q1]) rfl ?_
  exact ⟨t, rfl, HTT.out, below_two HL1.out.bel (Nat.le_refl _) _ _⟩
namespace Nt
end Nt
theorem nv_lit (W : World) (d : Nat) (h0 : 0 < d) (h1 : d < Nt.B) (y : Int) (hy : y = (d : Int)) : Nv (W.alloc (.cells #[.int .u32 y] 111)) (.slice (some ⟨W.heap.size, 0, none⟩) 1 1) (Nt.digs d) := by
  have e : Nt.digs d = [d] := by
    rw [Nt.digs_pos h0, Nat.mod_eq_of_lt h1, Nat.div_eq_of_lt h1, Nt.digs_zero]
  rw [e]
  exact (own_lit1 W W.heap.size (Nat.le_refl _) y d hy).nv (by simp)
end Go.Proofs.YtcnlonaighlmbaaGreatDoor

namespace Go.Proofs.YtcnlonaighlmbaaGreatDoor
open Go.RowKit


end Go.Proofs.YtcnlonaighlmbaaGreatDoor

namespace Go.Proofs.YtcnlonaighlmbaaGreatDoor
open Go.RowKit

theorem read_c (sn sd : ByteArray) (w : World) (h1 : sn.size ≤ 9223372036854775807) (h2 : sd.size ≤ 9223372036854775807) :
    Calls Tryz.prog 31 #[.agg #[.string sn, .string sd]] w fun e w' => ∃ m A1 n1 c1 A2 n2 c2 c, e = .returned (.tuple #[.agg #[.bool m, .slice A1 n1 c1, .slice A2 n2 c2], .int .i64 c]) ∧ (c = 0 ↔ ∃ m n d, Nt.Rd sn.data.toList sd.data.toList m n d) ∧ Below w.heap.size w w' := by
  refine (read_any sn sd w h1 h2).mono ?_
  rintro e w' ⟨hb, x, c, rfl, (⟨rfl, m, n, d, hr, hx⟩ | ⟨h0, rfl, hno⟩)⟩
  · obtain ⟨A1, c1, A2, c2, rfl, -, -⟩ := hx.at'
    exact ⟨_, _, _, _, _, _, _, _, rfl, ⟨fun _ => ⟨m, n, d, hr⟩, fun _ => rfl⟩, hb⟩
  · exact ⟨_, _, _, _, _, _, _, _, rfl, ⟨fun h => absurd h h0, fun h => absurd h hno⟩, hb⟩

set_option maxRecDepth 100000 in
set_option maxHeartbeats 1000000 in
theorem check_any (sn sd : ByteArray) (w : World) (h1 : sn.size ≤ 9223372036854775807) (h2 : sd.size ≤ 9223372036854775807) :
    Calls Tryz.prog 20 #[.agg #[.string sn, .string sd]] w fun e w' => ∃ c : Int, e = .returned (.int .i64 c) ∧ (c = 0 ↔ ∃ m n d, Nt.Rd sn.data.toList sd.data.toList m n d) ∧ Below w.heap.size w w' := by
  have HR := Lib.hid fun W => read_c sn sd W h1 h2
  have HL0 := Lib.hid ((Loc.start w).alloc' rfl 23 #[.string sn, .string sd])
  clear h1 h2
  go_enter Tryz.func20, Tryz.ntmps20
  go_wp2_with (go_at_call 31; (with_reducible refine (HR.out _).mono ?_); rintro e w1 ⟨m, A1, n1, c1, A2, n2, c2, c, rfl, hc, hb⟩; have HL1 := Lib.hid ((HL0.out.step hb).alloc 60 #[.bool m, .slice A1 n1 c1, .slice A2 n2 c2]); have HC := Lib.hid hc; clear hc hb)
  go_ret
  exact ⟨c, rfl, HC.out, HL1.out.bel⟩

structure Few (p : ByteArray × ByteArray) : Prop where
  rd : ∃ m n d, Nt.Rd p.1.data.toList p.2.data.toList m n d
  l1 : p.1.size ≤ 40
  l2 : p.2.size ≤ 40
/-- The cells of a slice of fractions. -/
def FrCells (W : World) (g : Nat) (l : List (ByteArray × ByteArray)) : Prop :=
  g < W.heap.size ∧ ∀ i (hi : i < l.length), W.cell? ⟨g, i * 2, none⟩ = some (.string l[i].1) ∧ W.cell? ⟨g, i * 2 + 1, none⟩ = some (.string l[i].2)
theorem FrCells.below {W W' : World} {g : Nat} {l : List (ByteArray × ByteArray)} (h : FrCells W g l) (hb : Below W.heap.size W W') : FrCells W' g l :=
  ⟨Nat.lt_of_lt_of_le h.1 hb.size, fun i hi => by
    have := h.2 i hi
    unfold World.cell? at this ⊢
    have e := hb.block g h.1
    simp only at this ⊢
    rw [e]; exact this⟩

end Go.Proofs.YtcnlonaighlmbaaGreatDoor

namespace Go.Proofs.YtcnlonaighlmbaaGreatDoor
open Go.RowKit

def frSame (a b c d : ByteArray) : Bool := a.toList == c.toList && b.toList == d.toList
theorem frSame_iff (a b c d : ByteArray) : frSame a b c d = true ↔ a = c ∧ b = d := by
  unfold frSame
  rw [Bool.and_eq_true, beq_iff_eq, beq_iff_eq, Lib.toList_data, Lib.toList_data, Lib.toList_data, Lib.toList_data]
  exact ⟨fun ⟨h1, h2⟩ => ⟨ba_ext h1, ba_ext h2⟩, by rintro ⟨rfl, rfl⟩; exact ⟨rfl, rfl⟩⟩
theorem frSame_refl (a b : ByteArray) : frSame a b a b = true := (frSame_iff _ _ _ _).2 ⟨rfl, rfl⟩
theorem fr_stood : Tryz.prog.stoodInHeld 23 = false := by kernel_rfl
theorem fr_fields : Tryz.prog.underlying 23 = some (.struct (Tryz.prog.fieldsOf 23)) := by kernel_rfl
theorem eq_s (W : World) (a b : ByteArray) : (Op.equalIn 9999 9 (.string a) (.string b)).run Tryz.prog W = .ok (a.toList == b.toList) W := run_equalIn_string W 9998 _ a b Tryz.underlying9
theorem fr_equalIn (a b c d : ByteArray) (W : World) : (Op.equalIn 10000 23 (.agg #[.string a, .string b]) (.agg #[.string c, .string d])).run Tryz.prog W = .ok (frSame a b c d) W := by
  rw [run_equalIn_struct W 9999 _ _ _ fr_fields fr_stood]
  simp only [Program.fieldsOf, Tryz.underlying23]
  simp only [Op.eqFields, Sem.run_bind, Sem.run_ite, part]
  simp [eq_s]
  unfold frSame
  repeat' split
  all_goals simp [*]
theorem fr_neq (a b c d : ByteArray) (W : World) : (binOp .neq 23 (.agg #[.string a, .string b]) (.agg #[.string c, .string d])).run Tryz.prog W = .ok (.bool (!frSame a b c d)) W := by
  rw [run_neq_struct, fr_equalIn]; rfl
theorem fr_eql (a b c d : ByteArray) (W : World) : (binOp .eql 23 (.agg #[.string a, .string b]) (.agg #[.string c, .string d])).run Tryz.prog W = .ok (.bool (frSame a b c d)) W := by
  rw [run_eql_struct, fr_equalIn]; rfl
theorem fr_eql_self (a b : ByteArray) (W : World) : (binOp .eql 23 (.agg #[.string a, .string b]) (.agg #[.string a, .string b])).run Tryz.prog W = .ok (.bool true) W := by rw [fr_eql, frSame_refl]

namespace Nt
end Nt
theorem Few.qk {p : ByteArray × ByteArray} (h : Few p) : ∃ z d, Nt.Qk p.1.data.toList p.2.data.toList z d 40 := by
  obtain ⟨m, n, d, hr⟩ := h.rd
  exact ⟨_, _, hr.qk h.l1 h.l2⟩

section
variable {w W : World} {L : List (Nat × TypeId × Array Value)} {g z : Nat} {t : TypeId} {a b : Value}
theorem Loc.s2 (h : Loc w L W) (hm : (g, t, #[a, b]) ∈ L) : W.cell? ⟨g, 0, none⟩ = some a ∧ W.cell? ⟨g, 1, none⟩ = some b := ⟨(h.blk hm).two.1, (h.blk hm).two.2.1⟩
end

end Go.Proofs.YtcnlonaighlmbaaGreatDoor

namespace Go.Proofs.YtcnlonaighlmbaaGreatDoor
open Go.RowKit



namespace Nt
/-- The whole part's digits: away from zero where the number is negative and not whole. -/
def fl (m : Bool) (n e : Nat) : Nat := if m = true ∧ n % e ≠ 0 then n / e + 1 else n / e
theorem fl_spec (m : Bool) (n e : Nat) (he : e ≠ 0) : zi m (fl m n e) * e ≤ zi m n ∧ zi m n < (zi m (fl m n e) + 1) * e := by
  have h1 : n = n / e * e + n % e := by rw [Nat.mul_comm]; exact (Nat.div_add_mod n e).symm
  have h2 := Nat.mod_lt n (Nat.pos_of_ne_zero he)
  obtain ⟨q, hq⟩ : ∃ q, q = n / e := ⟨_, rfl⟩
  obtain ⟨r, hr⟩ : ∃ r, r = n % e := ⟨_, rfl⟩
  unfold fl
  rw [← hq, ← hr] at h1 ⊢
  rw [← hr] at h2
  subst h1
  clear hq hr
  cases m with
  | false =>
    simp only [Bool.false_eq_true, false_and, if_false, zi]
    rw [Int.add_mul]
    push_cast
    omega
  | true =>
    by_cases h0 : r = 0
    · subst h0
      simp only [ne_eq, not_true_eq_false, and_false, if_false, zi, if_true]
      rw [Int.add_mul, Int.neg_mul]
      push_cast
      omega
    · rw [if_pos ⟨rfl, h0⟩]
      simp only [zi, if_true]
      push_cast
      rw [Int.neg_mul, Int.add_mul, Int.add_mul, Int.neg_mul, Int.add_mul]
      omega
theorem fl_le (m : Bool) (n e : Nat) (he : e ≠ 0) : fl m n e ≤ n := by
  unfold fl
  split
  · rename_i h
    have h2 : n % e ≤ n := Nat.mod_le _ _
    by_cases h1 : e = 1
    · subst h1; rw [Nat.mod_one] at h; exact absurd rfl h.2
    · have h3 : n ≠ 0 := by rintro rfl; rw [Nat.zero_mod] at h; exact h.2 rfl
      have : n / e < n := Nat.div_lt_self (by omega) (by omega)
      omega
  · exact Nat.div_le_self _ _
/-- The whole part, of the fraction itself. -/
theorem fl_q {m : Bool} {n e d : Nat} {z : Int} (he : e ≠ 0) (hd : d ≠ 0) (q : zi m n * d = z * e) : zi m (fl m n e) * d ≤ z ∧ z < (zi m (fl m n e) + 1) * d := by
  obtain ⟨h1, h2⟩ := fl_spec m n e he
  obtain ⟨f, hf⟩ : ∃ f, f = zi m (fl m n e) := ⟨_, rfl⟩
  rw [← hf] at h1 h2 ⊢
  have he' : (0 : Int) < e := by omega
  have hd' : (0 : Int) < d := by omega
  constructor
  · refine Int.le_of_mul_le_mul_right ?_ he'
    rw [← q]
    have := Int.mul_le_mul_of_nonneg_right h1 (Int.le_of_lt hd')
    calc f * d * e = f * e * d := by grind
      _ ≤ _ := this
  · refine Int.lt_of_mul_lt_mul_right ?_ (Int.le_of_lt he')
    rw [← q]
    have := Int.mul_lt_mul_of_pos_right h2 hd'
    calc _ < (f + 1) * e * d := this
      _ = _ := by grind
theorem abs_fl {f z : Int} {d : Nat} (hd : d ≠ 0) (h1 : f * d ≤ z) (h2 : z < (f + 1) * d) : f.natAbs ≤ z.natAbs := by
  have hd' : (1 : Int) ≤ d := by omega
  rcases Int.lt_or_le f 0 with hf | hf
  · have : (f + 1) * d ≤ (f + 1) * 1 := Int.mul_le_mul_of_nonpos_left (by omega) hd'
    omega
  · have : f * 1 ≤ f * d := Int.mul_le_mul_of_nonneg_left hd' hf
    omega
end Nt
theorem divide_o (va vb : Value) (a b : Nat) (w : World) (ha : Nv w va (Nt.digs a)) (hb : Nv w vb (Nt.digs b)) (sa : (Nt.digs a).length ≤ 900000) (sb : (Nt.digs b).length ≤ 900000) (h0 : b ≠ 0) :
    Calls Tryz.prog 138 #[va, vb] w fun e w' => ∃ A c A' c', e = .returned (.tuple #[.slice A (Nt.digs (a / b)).length c, .slice A' (Nt.digs (a % b)).length c']) ∧ Nv w' (.slice A (Nt.digs (a / b)).length c) (Nt.digs (a / b)) ∧ Nv w' (.slice A' (Nt.digs (a % b)).length c') (Nt.digs (a % b)) ∧ Below w.heap.size w w' := by
  refine (divide_n va vb a b w ha hb sa sb h0).mono ?_
  rintro e w' ⟨v1, v2, rfl, hv1, hv2, hb⟩
  obtain ⟨A, c, rfl, _⟩ := hv1.ex
  obtain ⟨A', c', rfl, _⟩ := hv2.ex
  exact ⟨A, c, A', c', rfl, hv1, hv2, hb⟩
theorem plus_o (va vb : Value) (a b : Nat) (w : World) (ha : Nv w va (Nt.digs a)) (hb : Nv w vb (Nt.digs b)) (sa : (Nt.digs a).length ≤ 1000000) (sb : (Nt.digs b).length ≤ 1000000) :
    Calls Tryz.prog 196 #[va, vb] w fun e w' => ∃ A c, e = .returned (.slice A (Nt.digs (a + b)).length c) ∧ Nv w' (.slice A (Nt.digs (a + b)).length c) (Nt.digs (a + b)) ∧ Below w.heap.size w w' := by
  refine (plus_n va vb a b w ha hb sa sb).mono ?_
  rintro e w' ⟨v, rfl, hv, hb⟩
  obtain ⟨A, c, rfl, _⟩ := hv.ex
  exact ⟨A, c, rfl, hv, hb⟩

set_option maxRecDepth 100000 in
set_option maxHeartbeats 2000000 in
theorem floor_w (a1 a2 : ByteArray) (m : Bool) (n e : Nat) (w : World) (h1 : a1.size ≤ 9223372036854775807) (h2 : a2.size ≤ 9223372036854775807) (hr : Nt.Rd a1.data.toList a2.data.toList m n e)
    (s1 : (Nt.digs n).length ≤ 400000) (s2 : (Nt.digs e).length ≤ 400000) (hfit : Fits (Nt.fl m n e) 1) (htab : Lib.TabIs Tryz.prog w "internal/strconv.uint64pow10" .u64 Lib.pow10Tab) :
    Calls Tryz.prog 187 #[.agg #[.string a1, .string a2]] w (WriteRet m (Nt.fl m n e) 1 w) := by
  have HRD := Lib.hid fun W => read_ok a1 a2 m n e W h1 h2 hr
  have he := hr.d0
  have HDV := Lib.hid fun (W : World) A c A' c' (p : Nv W (.slice A (Nt.digs n).length c) (Nt.digs n)) (q : Nv W (.slice A' (Nt.digs e).length c') (Nt.digs e)) => divide_o _ _ n e W p q (by omega) (by omega) he
  have HQS := Lib.hid (show (Nt.digs (n / e)).length ≤ 1000000 from Nat.le_trans (digs_mono (Nat.div_le_self n e)) (by omega))
  have HT := Lib.hid (show ∀ W, Below w.heap.size w W → Lib.TabIs Tryz.prog W "internal/strconv.uint64pow10" .u64 Lib.pow10Tab from Lib.tabBelow_of_tabIs htab)
  have HF := Lib.hid hfit
  clear hr h1 h2 s1 s2 htab hfit he
  have HL0 := Lib.hid (((Loc.start w).alloc' rfl 23 #[.string a1, .string a2]).alloc' (g := w.heap.size + 1) (by simp) 23 #[.string ⟨#[]⟩, .string ⟨#[]⟩])
  go_enter Tryz.func187, Tryz.ntmps187
  go_upto_region 5 with (first
    | (go_at_call 31; (with_reducible refine (HRD.out _).mono ?_); rintro e w1 ⟨A1, c1, A2, c2, rfl, hn, hd, hb⟩; have HL1 := Lib.hid ((HL0.out.step hb).alloc 60 #[.bool m, .slice A1 (Nt.digs n).length c1, .slice A2 (Nt.digs e).length c2]); have HAL := Lib.hid ((Below.refl _ w1).alloc (Nat.le_refl _) (.cells #[.bool m, .slice A1 (Nt.digs n).length c1, .slice A2 (Nt.digs e).length c2] 60)); have HN := Lib.hid hn; have HD := Lib.hid hd; clear hn hd hb)
    | (go_at_call 138; (with_reducible refine (HDV.out _ _ _ _ _ (HN.out.below HAL.out) (HD.out.below HAL.out)).mono ?_); rintro e w2 ⟨A3, c3, A4, c4, rfl, hn, hd, hb⟩; have HL2 := Lib.hid (HL1.out.step hb); have HQ := Lib.hid hn; have HR := Lib.hid hd; clear hn hd hb))
  have x0 : w2.cell? ⟨w1.heap.size, 0, none⟩ = some (.bool m) := (HL2.out.blk (g := w1.heap.size) (t := 60) (cs := #[.bool m, .slice A1 (Nt.digs n).length c1, .slice A2 (Nt.digs e).length c2]) (by simp)).cell 0
  by_cases hm : m = true ∧ n % e ≠ 0
  · obtain ⟨rfl, h0⟩ := hm
    have hfl : Nt.fl true n e = n / e + 1 := if_pos ⟨rfl, h0⟩
    rw [hfl] at HF
    have HFL := Lib.hid hfl
    have hz : (((Nt.digs (n % e)).length : Int) == 0) = false := by rw [Nt.digs_pos (by omega)]; simp; omega
    clear hfl h0
    go_wp2_with (first
      | (go_at_call 137; refine (zero_any _ _ _ _).mono ?_; rintro e w0 ⟨rfl, rfl⟩)
      | (go_at_call 196; (with_reducible refine (plus_o _ _ (n / e) 1 _ (HQ.out.below ((Below.refl _ w2).alloc (Nat.le_refl _) (.cells #[.int .u32 1] 111))) (nv_lit w2 1 (by decide) (by decide) 1 rfl) HQS.out (by rw [digs_one]; decide)).mono ?_); rintro e w3 ⟨A5, c5, rfl, hq, hb⟩; have hl := (HL2.out.alloc 111 #[.int .u32 1]).step hb; have HL3 := Lib.hid hl; have HQ3 := Lib.hid hq; obtain ⟨y0, -, -, -, -, -⟩ := (hl.blk (g := w1.heap.size) (t := 60) (cs := #[.bool true, .slice A1 (Nt.digs n).length c1, .slice A2 (Nt.digs e).length c2]) (by simp)).three; clear hq hb hl)
      | (go_at_call 165; (with_reducible refine (write_any _ true (n / e + 1) 1 _ ⟨_, _, rfl, (HQ3.out.below ((Below.refl _ w3).alloc (Nat.le_refl _) (.cells #[.int .u32 1] 111))), (nv_lit w3 1 (by decide) (by decide) 1 rfl)⟩ (by decide) HF.out.s1 HF.out.s2 HF.out.f1 HF.out.f2 (HT.out _ (HL3.out.alloc 111 #[.int .u32 1]).bel)).mono ?_); rintro e w4 ⟨hb, sn, sd, rfl, e1, e2⟩; have hl := (HL3.out.alloc 111 #[.int .u32 1]).step hb; have HL4 := Lib.hid hl; have bl := hl.blk (g := w.heap.size + 1) (t := 23) (cs := #[.string ⟨#[]⟩, .string ⟨#[]⟩]) (by simp); have HBL := Lib.hid bl; obtain ⟨z0, z1, f0, f1⟩ := bl.two; have E1 := Lib.hid e1; have E2 := Lib.hid e2; clear hl bl hb e1 e2))
    obtain ⟨-, q0, q1⟩ := HBL.out.two_set (.string sn) (.string sd)
    refine bodyPost_ret (v := .tuple #[.agg #[.string sn, .string sd], .int .i64 0]) (by simp [results, Tryz.results187, go_sem, q0, q1]) rfl ?_
    exact ⟨below_two HL4.out.bel (by omega) _ _, sn, sd, rfl, (by rw [HFL.out]; exact E1.out), (by rw [HFL.out]; exact E2.out)⟩
  · have hfl : Nt.fl m n e = n / e := if_neg hm
    rw [hfl] at HF
    have HFL := Lib.hid hfl
    have hz : m = true → (((Nt.digs (n % e)).length : Int) == 0) = true := fun h => by
      have : n % e = 0 := Classical.not_not.1 fun h0 => hm ⟨h, h0⟩
      rw [this, Nt.digs_zero]; rfl
    clear hfl hm
    cases m
    · clear hz
      go_wp2_with (first
        | (go_at_call 137; refine (zero_any _ _ _ _).mono ?_; rintro e w0 ⟨rfl, rfl⟩)
        | (go_at_call 165; (with_reducible refine (write_any _ false (n / e) 1 _ ⟨_, _, rfl, (HQ.out.below ((Below.refl _ w2).alloc (Nat.le_refl _) (.cells #[.int .u32 1] 111))), (nv_lit w2 1 (by decide) (by decide) 1 rfl)⟩ (by decide) HF.out.s1 HF.out.s2 HF.out.f1 HF.out.f2 (HT.out _ (HL2.out.alloc 111 #[.int .u32 1]).bel)).mono ?_); rintro e w4 ⟨hb, sn, sd, rfl, e1, e2⟩; have hl := (HL2.out.alloc 111 #[.int .u32 1]).step hb; have HL4 := Lib.hid hl; have bl := hl.blk (g := w.heap.size + 1) (t := 23) (cs := #[.string ⟨#[]⟩, .string ⟨#[]⟩]) (by simp); have HBL := Lib.hid bl; obtain ⟨z0, z1, f0, f1⟩ := bl.two; have E1 := Lib.hid e1; have E2 := Lib.hid e2; clear hl bl hb e1 e2))
      obtain ⟨-, q0, q1⟩ := HBL.out.two_set (.string sn) (.string sd)
      refine bodyPost_ret (v := .tuple #[.agg #[.string sn, .string sd], .int .i64 0]) (by simp [results, Tryz.results187, go_sem, q0, q1]) rfl ?_
      exact ⟨below_two HL4.out.bel (by omega) _ _, sn, sd, rfl, (by rw [HFL.out]; exact E1.out), (by rw [HFL.out]; exact E2.out)⟩
    · replace hz := hz rfl
      go_wp2_with (first
        | (go_at_call 137; refine (zero_any _ _ _ _).mono ?_; rintro e w0 ⟨rfl, rfl⟩)
        | (go_at_call 165; (with_reducible refine (write_any _ true (n / e) 1 _ ⟨_, _, rfl, (HQ.out.below ((Below.refl _ w2).alloc (Nat.le_refl _) (.cells #[.int .u32 1] 111))), (nv_lit w2 1 (by decide) (by decide) 1 rfl)⟩ (by decide) HF.out.s1 HF.out.s2 HF.out.f1 HF.out.f2 (HT.out _ (HL2.out.alloc 111 #[.int .u32 1]).bel)).mono ?_); rintro e w4 ⟨hb, sn, sd, rfl, e1, e2⟩; have hl := (HL2.out.alloc 111 #[.int .u32 1]).step hb; have HL4 := Lib.hid hl; have bl := hl.blk (g := w.heap.size + 1) (t := 23) (cs := #[.string ⟨#[]⟩, .string ⟨#[]⟩]) (by simp); have HBL := Lib.hid bl; obtain ⟨z0, z1, f0, f1⟩ := bl.two; have E1 := Lib.hid e1; have E2 := Lib.hid e2; clear hl bl hb e1 e2))
      obtain ⟨-, q0, q1⟩ := HBL.out.two_set (.string sn) (.string sd)
      refine bodyPost_ret (v := .tuple #[.agg #[.string sn, .string sd], .int .i64 0]) (by simp [results, Tryz.results187, go_sem, q0, q1]) rfl ?_
      exact ⟨below_two HL4.out.bel (by omega) _ _, sn, sd, rfl, (by rw [HFL.out]; exact E1.out), (by rw [HFL.out]; exact E2.out)⟩

theorem floor_q (a1 a2 : ByteArray) (z : Int) (d k : Nat) (w : World) (ha : Nt.Qk a1.data.toList a2.data.toList z d k) (hk : k ≤ 299) (htab : Lib.TabIs Tryz.prog w "internal/strconv.uint64pow10" .u64 Lib.pow10Tab) :
    Calls Tryz.prog 187 #[.agg #[.string a1, .string a2]] w fun e w' => ∃ f : Int, QRet f 1 k w e w' ∧ f * d ≤ z ∧ z < (f + 1) * d := by
  obtain ⟨m, n, p, r, q⟩ := ha.q.ex
  have la := ha.ln
  have x1 := lt_pow34 r.ln
  have x2 := lt_pow34 r.ld
  obtain ⟨f1, f2⟩ := Nt.fl_q r.d0 ha.q.d0 q
  have hz : (Nt.zi m (Nt.fl m n p)).natAbs ≤ 10 ^ k := Nat.le_trans (Nt.abs_fl ha.q.d0 f1 f2) ha.zk
  have h1k : 1 ≤ 10 ^ k := Nat.one_le_pow _ _ (by decide)
  have hfit : Fits (Nt.fl m n p) 1 := fits_of (m := m) (d := 1) (z := Nt.zi m (Nt.fl m n p)) (by decide) (by decide) rfl hz h1k hk (i := 34) (by omega) (Nat.lt_of_le_of_lt (Nt.fl_le m n p r.d0) x1) (Nat.one_lt_pow (by decide) (by decide))
  refine (floor_w a1 a2 m n p w (size_of la.1 (by omega)) (size_of la.2 (by omega)) r (Nat.le_trans (digs_pow x1) (by omega)) (Nat.le_trans (digs_pow x2) (by omega)) hfit htab).mono ?_
  rintro e w' ⟨hb, sn, sd, rfl, e1, e2⟩
  exact ⟨_, ⟨sn, sd, rfl, by rw [e1, e2]; exact Nt.w_qk (by decide) (by decide) rfl hz h1k hk, hb⟩, f1, f2⟩
end Go.Proofs.YtcnlonaighlmbaaGreatDoor
