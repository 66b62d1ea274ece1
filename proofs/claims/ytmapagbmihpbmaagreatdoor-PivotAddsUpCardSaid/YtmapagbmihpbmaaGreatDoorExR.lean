/- The contract of exact's read. -/
import Derived.Test.YtmapagbmihpbmaaGreatDoorGg
import Derived.Test.YtmapagbmihpbmaaGreatDoorGc
import Derived.Deep.RegionHeld3
namespace Go.Proofs.YtmapagbmihpbmaaGreatDoor
open Go.RowKit

/-- The value is a number: its sign, its digits. -/
structure Nm (w : World) (x : Value) (m : Bool) (n d : Nat) : Prop where
  ex : ∃ a b, x = .agg #[.bool m, a, b] ∧ Nv w a (Nt.digs n) ∧ Nv w b (Nt.digs d)
namespace Nt
def sgn (m : Bool) : List UInt8 := if m then [45] else []
/-- The strings of a fraction, reduced. -/
structure Rd (num den : List UInt8) (m : Bool) (n d : Nat) : Prop where
  num : num = sgn m ++ Lib.decDigits n
  den : den = Lib.decDigits d
  d0 : d ≠ 0
  n0 : n = 0 → m = false
  ln : (Lib.decDigits n).length ≤ 300
  ld : (Lib.decDigits d).length ≤ 300
  g : Nat.gcd n d = 1
theorem isD_dd {n : Nat} {c : UInt8} {t : List UInt8} (h : Lib.decDigits n = c :: t) : c ≠ 45 := by
  have := allD_dd n c (by rw [h]; simp)
  rintro rfl
  exact absurd this.1 (by decide)
theorem pre_sgn (m : Bool) (n : Nat) : Lib.trimPrefix (sgn m ++ Lib.decDigits n) [45] = Lib.decDigits n ∧ Lib.hasPrefix (sgn m ++ Lib.decDigits n) [45] = m := by
  cases m with
  | true => simp [sgn, Lib.trimPrefix, Lib.hasPrefix]
  | false =>
    cases hd : Lib.decDigits n with
    | nil => exact absurd hd (dd_ne n)
    | cons c t =>
      have := isD_dd hd
      simp [sgn, Lib.trimPrefix, Lib.hasPrefix, List.isPrefixOf, Ne.symm this]
theorem pre_split (l : List UInt8) : sgn (Lib.hasPrefix l [45]) ++ Lib.trimPrefix l [45] = l := by
  unfold Lib.trimPrefix
  by_cases h : Lib.hasPrefix l [45] = true
  · rw [if_pos h, h]
    obtain ⟨t, ht⟩ := List.isPrefixOf_iff_prefix.1 h
    subst ht
    rfl
  · rw [if_neg h]
    simp at h
    rw [h]
    rfl
/-- When a fraction is read. -/
structure Ok (num den : List UInt8) : Prop where
  p : Dn (Lib.trimPrefix num [45])
  d : Dn den
  d0 : den ≠ [48]
  n0 : Lib.trimPrefix num [45] = [48] → Lib.hasPrefix num [45] = false
  ln : (Lib.trimPrefix num [45]).length ≤ 300
  ld : den.length ≤ 300
  g : Nat.gcd (dval (Lib.trimPrefix num [45])) (dval den) = 1
theorem dd_zero (n : Nat) : Lib.decDigits n = [48] ↔ n = 0 := by
  constructor
  · intro h
    have := dval_dd n
    rw [h] at this
    exact this.symm
  · rintro rfl
    exact Lib.decDigits_one (by omega)
theorem Rd.ok {num den : List UInt8} {m : Bool} {n d : Nat} (h : Rd num den m n d) : Ok num den := by
  obtain ⟨e1, e2, h0, h1, h3, h4, h5⟩ := h
  subst e1 e2
  obtain ⟨p1, p2⟩ := pre_sgn m n
  refine ⟨by rw [p1]; exact ⟨n, rfl⟩, ⟨d, rfl⟩, by rw [ne_eq, dd_zero]; exact h0, by rw [p1, p2, dd_zero]; exact h1, by rw [p1]; exact h3, h4, by rw [p1, dval_dd, dval_dd]; exact h5⟩
theorem Ok.rd {num den : List UInt8} (h : Ok num den) : Rd num den (Lib.hasPrefix num [45]) (dval (Lib.trimPrefix num [45])) (dval den) := by
  obtain ⟨⟨n, e1⟩, ⟨d, e2⟩, h0, h1, h3, h4, h5⟩ := h
  have hp := pre_split num
  rw [e1] at h1 h3 h5 hp ⊢
  subst e2
  rw [dval_dd, dval_dd] at h5 ⊢
  exact ⟨hp.symm, rfl, by rw [ne_eq, dd_zero] at h0; exact h0, by rw [dd_zero] at h1; exact h1, h3, h4, h5⟩
theorem read_rd {num den p : List UInt8} {m : Bool} (hP : Lib.trimPrefix num [45] = p) (hM : m = Lib.hasPrefix num [45]) (h1 : Dn p) (h2 : Dn den) (h3 : den ≠ [48]) (h4 : p = [48] → m = false) (h5 : p.length ≤ 300) (h6 : den.length ≤ 300)
    (h7 : Nat.gcd (dval p) (dval den) = 1) : Rd num den m (dval p) (dval den) := by
  subst hP hM
  exact Ok.rd ⟨h1, h2, h3, h4, h5, h6, h7⟩
theorem ok_iff {num den : List UInt8} : (∃ m n d, Rd num den m n d) ↔ Ok num den := ⟨fun ⟨_, _, _, h⟩ => h.ok, fun h => ⟨_, _, _, h.rd⟩⟩
end Nt
theorem digits_t (s : ByteArray) (w : World) (hs : s.size ≤ 9223372036854775807) (h : Nt.Dn s.data.toList) : Calls Tryz.prog 101 #[.string s] w fun e w' => e = .returned (.bool true) ∧ Below w.heap.size w w' := by
  refine (digits_any s w hs).mono ?_
  rintro e w' ⟨b, rfl, hb, hB⟩
  rw [hb.2 h]
  exact ⟨rfl, hB⟩
theorem digits_f (s : ByteArray) (w : World) (hs : s.size ≤ 9223372036854775807) (h : ¬ Nt.Dn s.data.toList) : Calls Tryz.prog 101 #[.string s] w fun e w' => e = .returned (.bool false) ∧ Below w.heap.size w w' := by
  refine (digits_any s w hs).mono ?_
  rintro e w' ⟨b, rfl, hb, hB⟩
  cases b with
  | true => exact absurd (hb.1 rfl) h
  | false => exact ⟨rfl, hB⟩
theorem parse_t (q : ByteArray) (W : World) (h : Nt.Dn q.data.toList) (h3 : (q.size : Int) ≤ 300) : Calls Tryz.prog 102 #[.string q] W fun e w' => ∃ A c, e = .returned (.slice A (Nt.digs (Nt.dval q.data.toList)).length c) ∧ Nv w' (.slice A (Nt.digs (Nt.dval q.data.toList)).length c) (Nt.digs (Nt.dval q.data.toList)) ∧ Below W.heap.size W w' := by
  have e : q.data.toList.length = q.size := rfl
  refine (parse_any q _ W rfl (Nt.dn_iff.1 h).1 (by omega)).mono ?_
  rintro e w' ⟨v, rfl, hv, hb⟩
  obtain ⟨A, c, rfl, _⟩ := hv.ex
  exact ⟨A, c, rfl, hv, hb⟩
theorem Nv.apart {W : World} {v : Value} {l : List Nat} (h : Nv W v l) {z : Nat} {t : TypeId} {b : Bool} {A A' : Option Addr} {n n' c c' : Nat} (hz : Blk W z t #[.bool b, .slice A n c, .slice A' n' c']) (y0 y1 y2 : Value) : Nv (((W.setCell ⟨z, 0, none⟩ y0).setCell ⟨z, 1, none⟩ y1).setCell ⟨z, 2, none⟩ y2) v l := by
  obtain ⟨A, c, rfl, h1, h2, h0, h3⟩ := h.ex
  refine ⟨A, c, rfl, h1, h2, h0, fun hl => ?_⟩
  obtain ⟨g, o, rfl, h4, h5⟩ := h3 hl
  have hne : g ≠ z := by
    rintro rfl
    have e1 := h5 0 hl
    rw [Nat.add_zero, hz.cell] at e1
    match o, e1 with
    | 0, e1 => simp at e1
    | 1, e1 => simp at e1
    | 2, e1 => simp at e1
    | o + 3, e1 => simp at e1
  refine ⟨g, o, rfl, by simpa [World.setCell] using h4, fun i hi => ?_⟩
  rw [World.cell?_setCell_other _ _ _ _ (fun e => by have := congrArg Addr.block e; simp only at this; omega), World.cell?_setCell_other _ _ _ _ (fun e => by have := congrArg Addr.block e; simp only at this; omega), World.cell?_setCell_other _ _ _ _ (fun e => by have := congrArg Addr.block e; simp only at this; omega)]
  exact h5 i hi
theorem digs_300 {l : List UInt8} (h : Nt.Dn l) (h3 : l.length ≤ 300) : (Nt.digs (Nt.dval l)).length ≤ 900000 := by
  have h1 := Nt.dval_lt (Nt.dn_iff.1 h).1
  obtain ⟨k, hk⟩ : ∃ k, k = 34 := ⟨_, rfl⟩
  have h2 : 10 ^ l.length ≤ 10 ^ (9 * k) := Nat.pow_le_pow_right (by decide) (by omega)
  have h4 : Nt.dval l < Nt.B ^ k := Nat.lt_of_lt_of_le h1 (by
    have e : (10 : Nat) ^ (9 * k) = Nt.B ^ k := Nat.pow_mul 10 9 k
    rw [← e]
    exact h2)
  exact Nat.le_trans (Nt.digs_len h4) (by omega)
theorem digs_one : Nt.digs 1 = [1] := by
  rw [Nt.digs_pos (by decide)]
  have e : (1 : Nat) / Nt.B = 0 := by decide
  rw [e, Nt.digs_zero]
  rfl
theorem one_t (v : Value) (n : Nat) (w : World) (h : Nv w v (Nt.digs n)) (h1 : n = 1) : Calls Tryz.prog 103 #[v] w fun e w' => e = .returned (.bool true) ∧ w = w' := by
  refine (one_any v _ w h (Nt.digs_canon n).1).mono ?_
  rintro e w' ⟨rfl, hw⟩
  subst h1
  exact ⟨by rw [decide_eq_true digs_one], hw⟩
theorem one_f (v : Value) (n : Nat) (w : World) (h : Nv w v (Nt.digs n)) (h1 : n ≠ 1) : Calls Tryz.prog 103 #[v] w fun e w' => e = .returned (.bool false) ∧ w = w' := by
  refine (one_any v _ w h (Nt.digs_canon n).1).mono ?_
  rintro e w' ⟨rfl, hw⟩
  exact ⟨by rw [decide_eq_false (fun e => h1 (by have := Nt.val_digs n; rw [e] at this; exact this.symm))], hw⟩
/-- What stands in the course of read. -/
def RP (w : World) (sn sd : ByteArray) (W : World) : Prop := Blk W w.heap.size 24 #[.string sn, .string sd] ∧ Blk W (w.heap.size + 1) 67 #[.bool false, .slice none 0 0, .slice none 0 0] ∧ Below w.heap.size w W
theorem RP.step {w : World} {sn sd : ByteArray} {W W' : World} (h : RP w sn sd W) (hb : Below W.heap.size W W') : RP w sn sd W' := ⟨h.1.later hb, h.2.1.later hb, h.2.2.trans (hb.mono h.2.2.size)⟩
theorem RP.alloc {w : World} {sn sd : ByteArray} {W : World} (h : RP w sn sd W) (o : Obj) : RP w sn sd (W.alloc o) := h.step ((Below.refl _ W).alloc (Nat.le_refl _) _)
theorem RP.lt {w : World} {sn sd : ByteArray} {W : World} (h : RP w sn sd W) : w.heap.size + 1 < W.heap.size := h.2.1.lt
theorem RP.three {w : World} {sn sd : ByteArray} {W : World} (h : RP w sn sd W) {z : Nat} (hz : w.heap.size + 1 < z) (y0 y1 y2 : Value) : RP w sn sd (((W.setCell ⟨z, 0, none⟩ y0).setCell ⟨z, 1, none⟩ y1).setCell ⟨z, 2, none⟩ y2) :=
  ⟨h.1.three_far (by omega) _ _ _, h.2.1.three_far (by omega) _ _ _, below_three h.2.2 (by omega) _ _ _⟩
theorem RP.c1 {w : World} {sn sd : ByteArray} {W : World} (h : RP w sn sd W) : W.cell? ⟨w.heap.size, 1, none⟩ = some (.string sd) := h.1.cell 1
theorem RP.drew {w : World} {sn sd : ByteArray} {W : World} (h : RP w sn sd W) : RP w sn sd W.drew := ⟨h.1.drew, h.2.1.drew, Below.drew h.2.2⟩
def zeroN : Value := .agg #[.bool false, .slice none 0 0, .slice none 0 0]
/-- What read hands back. -/
def ReadRet (num den : List UInt8) (w : World) (e : Ending) (w' : World) : Prop := Below w.heap.size w w' ∧ ∃ x c, e = .returned (.tuple #[x, .int .i64 c]) ∧
  ((c = 0 ∧ ∃ m n d, Nt.Rd num den m n d ∧ Nm w' x m n d) ∨ (c ≠ 0 ∧ x = zeroN ∧ ¬ ∃ m n d, Nt.Rd num den m n d))

set_option maxRecDepth 100000 in
set_option maxHeartbeats 4000000 in
theorem read_any (sn sd : ByteArray) (w : World) (h1 : sn.size ≤ 9223372036854775807) (h2 : sd.size ≤ 9223372036854775807) :
    Calls Tryz.prog 77 #[.agg #[.string sn, .string sd]] w (ReadRet sn.data.toList sd.data.toList w) := by
  obtain ⟨m, hm⟩ : ∃ m, m = Lib.hasPrefix sn.data.toList [45] := ⟨_, rfl⟩
  obtain ⟨p, hp⟩ : ∃ p : ByteArray, p = ⟨(Lib.trimPrefix sn.data.toList [45]).toArray⟩ := ⟨_, rfl⟩
  have hcut := fun W => Tryz.strings_CutPrefix sn ⟨#[45]⟩ W
  have hpl : Lib.trimPrefix sn.data.toList [45] = p.data.toList := by rw [hp]
  have hps : p.size ≤ sn.size := by
    have e1 : p.size = (Lib.trimPrefix sn.data.toList [45]).length := by rw [hpl]; rfl
    have e2 : sn.size = sn.data.toList.length := rfl
    rw [e1, e2]
    unfold Lib.trimPrefix
    split
    · simp
    · exact Nat.le_refl _
  rw [show (⟨#[45]⟩ : ByteArray).data.toList = [45] from rfl, ← hm, ← hp] at hcut
  have HCUT := Lib.hid hcut
  have HM := Lib.hid hm
  have HP := Lib.hid hpl
  clear hcut hm hpl hp
  by_cases D1 : Nt.Dn p.data.toList
  case neg =>
    have HD1 := Lib.hid fun W => digits_f p W (by omega) D1
    have HW := Lib.hid D1
    clear D1
    go_enter Tryz.func77, Tryz.ntmps77
    go_wp2_with (first | (go_at_call 100; refine (HCUT.out _).mono ?_; rintro e w1 ⟨rfl, rfl⟩) | (go_at_call 101; ((with_reducible refine (HD1.out _).mono ?_); rintro e w2 ⟨rfl, hB1⟩; have hX1 := ((Blk.new w 24 #[.string sn, .string sd]).alloc (.cells #[.bool false, .slice none 0 0, .slice none 0 0] 67)).later hB1; have HX1 := Lib.hid hX1; have hR1 := (Blk.new (w.alloc (.cells #[.string sn, .string sd] 24)) 67 #[.bool false, .slice none 0 0, .slice none 0 0]).later hB1; rw [World.size_alloc] at hR1; have HR1 := Lib.hid hR1; have hBe1 := (((Below.refl _ w).alloc (Nat.le_refl _) (.cells #[.string sn, .string sd] 24)).alloc (by simp) (.cells #[.bool false, .slice none 0 0, .slice none 0 0] 67)).trans (hB1.mono (by simp; omega)); have HBe1 := Lib.hid hBe1; clear hR1 hB1 hX1 hBe1; obtain ⟨x0, x1, -, -⟩ := HX1.out.two; obtain ⟨r0, r1, r2, f0, f1, f2⟩ := HR1.out.three; obtain ⟨-, n0, n1, n2⟩ := HR1.out.three_set (.bool false) (.slice none 0 0) (.slice none 0 0))))
    refine bodyPost_ret (v := .tuple #[zeroN, .int .i64 4]) (by simp [results, Tryz.results77, go_sem, n0, n1, n2, zeroN]) rfl ?_
    exact ⟨below_three HBe1.out (by omega) _ _ _, _, _, rfl, .inr ⟨by decide, rfl, fun h => HW.out (by rw [← HP.out]; exact (Nt.ok_iff.1 h).p)⟩⟩
  have HD1 := Lib.hid fun W => digits_t p W (by omega) D1
  by_cases D2 : Nt.Dn sd.data.toList
  case neg =>
    have HD2 := Lib.hid fun W => digits_f sd W h2 D2
    have HW := Lib.hid D2
    clear D1 D2
    go_enter Tryz.func77, Tryz.ntmps77
    go_wp2_with (first | (go_at_call 100; refine (HCUT.out _).mono ?_; rintro e w1 ⟨rfl, rfl⟩) | (go_at_call 101; first | ((with_reducible refine (HD1.out _).mono ?_); rintro e w2 ⟨rfl, hB1⟩; have hX1 := ((Blk.new w 24 #[.string sn, .string sd]).alloc (.cells #[.bool false, .slice none 0 0, .slice none 0 0] 67)).later hB1; have HX1 := Lib.hid hX1; have hR1 := (Blk.new (w.alloc (.cells #[.string sn, .string sd] 24)) 67 #[.bool false, .slice none 0 0, .slice none 0 0]).later hB1; rw [World.size_alloc] at hR1; have HR1 := Lib.hid hR1; have hBe1 := (((Below.refl _ w).alloc (Nat.le_refl _) (.cells #[.string sn, .string sd] 24)).alloc (by simp) (.cells #[.bool false, .slice none 0 0, .slice none 0 0] 67)).trans (hB1.mono (by simp; omega)); have HBe1 := Lib.hid hBe1; clear hR1 hB1 hX1 hBe1; obtain ⟨x0, x1, -, -⟩ := HX1.out.two; obtain ⟨r0, r1, r2, f0, f1, f2⟩ := HR1.out.three; obtain ⟨-, n0, n1, n2⟩ := HR1.out.three_set (.bool false) (.slice none 0 0) (.slice none 0 0)) | ((with_reducible refine (HD2.out _).mono ?_); rintro e w3 ⟨rfl, hB2⟩; have hX2 := HX1.out.later hB2; have hR2 := HR1.out.later hB2; have hBe2 := HBe1.out.trans (hB2.mono HBe1.out.size); have HX2 := Lib.hid hX2; have HR2 := Lib.hid hR2; have HBe2 := Lib.hid hBe2; clear hB2 hX2 hR2 hBe2 x0 x1 r0 r1 r2 f0 f1 f2 n0 n1 n2; obtain ⟨x0, x1, -, -⟩ := HX2.out.two; obtain ⟨r0, r1, r2, f0, f1, f2⟩ := HR2.out.three; obtain ⟨-, n0, n1, n2⟩ := HR2.out.three_set (.bool false) (.slice none 0 0) (.slice none 0 0))))
    refine bodyPost_ret (v := .tuple #[zeroN, .int .i64 4]) (by simp [results, Tryz.results77, go_sem, n0, n1, n2, zeroN]) rfl ?_
    exact ⟨below_three HBe2.out (by omega) _ _ _, _, _, rfl, .inr ⟨by decide, rfl, fun h => HW.out (Nt.ok_iff.1 h).d⟩⟩
  have HD2 := Lib.hid fun W => digits_t sd W h2 D2
  have HDn1 := Lib.hid D1
  have HDn2 := Lib.hid D2
  clear D1 D2
  cases hz : (sd.toList == [48])
  case true =>
    have HZ := Lib.hid (show sd.data.toList = [48] by rw [Lib.toList_data] at hz; simpa using hz)
    go_enter Tryz.func77, Tryz.ntmps77
    go_wp2_with (first | (go_at_call 100; refine (HCUT.out _).mono ?_; rintro e w1 ⟨rfl, rfl⟩) | (go_at_call 101; first | ((with_reducible refine (HD1.out _).mono ?_); rintro e w2 ⟨rfl, hB1⟩; have hX1 := ((Blk.new w 24 #[.string sn, .string sd]).alloc (.cells #[.bool false, .slice none 0 0, .slice none 0 0] 67)).later hB1; have HX1 := Lib.hid hX1; have hR1 := (Blk.new (w.alloc (.cells #[.string sn, .string sd] 24)) 67 #[.bool false, .slice none 0 0, .slice none 0 0]).later hB1; rw [World.size_alloc] at hR1; have HR1 := Lib.hid hR1; have hBe1 := (((Below.refl _ w).alloc (Nat.le_refl _) (.cells #[.string sn, .string sd] 24)).alloc (by simp) (.cells #[.bool false, .slice none 0 0, .slice none 0 0] 67)).trans (hB1.mono (by simp; omega)); have HBe1 := Lib.hid hBe1; clear hR1 hB1 hX1 hBe1; obtain ⟨x0, x1, -, -⟩ := HX1.out.two; obtain ⟨r0, r1, r2, f0, f1, f2⟩ := HR1.out.three; obtain ⟨-, n0, n1, n2⟩ := HR1.out.three_set (.bool false) (.slice none 0 0) (.slice none 0 0)) | ((with_reducible refine (HD2.out _).mono ?_); rintro e w3 ⟨rfl, hB2⟩; have hX2 := HX1.out.later hB2; have hR2 := HR1.out.later hB2; have hBe2 := HBe1.out.trans (hB2.mono HBe1.out.size); have HX2 := Lib.hid hX2; have HR2 := Lib.hid hR2; have HBe2 := Lib.hid hBe2; clear hB2 hX2 hR2 hBe2 x0 x1 r0 r1 r2 f0 f1 f2 n0 n1 n2; obtain ⟨x0, x1, -, -⟩ := HX2.out.two; obtain ⟨r0, r1, r2, f0, f1, f2⟩ := HR2.out.three; obtain ⟨-, n0, n1, n2⟩ := HR2.out.three_set (.bool false) (.slice none 0 0) (.slice none 0 0))))
    refine bodyPost_ret (v := .tuple #[zeroN, .int .i64 4]) (by simp [results, Tryz.results77, go_sem, n0, n1, n2, zeroN]) rfl ?_
    exact ⟨below_three HBe2.out (by omega) _ _ _, _, _, rfl, .inr ⟨by decide, rfl, fun h => (Nt.ok_iff.1 h).d0 HZ.out⟩⟩
  cases hzp : (p.toList == [48])
  case true =>
    cases m
    case true =>
      have HZ := Lib.hid (show p.data.toList = [48] by rw [Lib.toList_data] at hzp; simpa using hzp)
      go_enter Tryz.func77, Tryz.ntmps77
      go_wp2_with (first | (go_at_call 100; refine (HCUT.out _).mono ?_; rintro e w1 ⟨rfl, rfl⟩) | (go_at_call 101; first | ((with_reducible refine (HD1.out _).mono ?_); rintro e w2 ⟨rfl, hB1⟩; have hX1 := ((Blk.new w 24 #[.string sn, .string sd]).alloc (.cells #[.bool false, .slice none 0 0, .slice none 0 0] 67)).later hB1; have HX1 := Lib.hid hX1; have hR1 := (Blk.new (w.alloc (.cells #[.string sn, .string sd] 24)) 67 #[.bool false, .slice none 0 0, .slice none 0 0]).later hB1; rw [World.size_alloc] at hR1; have HR1 := Lib.hid hR1; have hBe1 := (((Below.refl _ w).alloc (Nat.le_refl _) (.cells #[.string sn, .string sd] 24)).alloc (by simp) (.cells #[.bool false, .slice none 0 0, .slice none 0 0] 67)).trans (hB1.mono (by simp; omega)); have HBe1 := Lib.hid hBe1; clear hR1 hB1 hX1 hBe1; obtain ⟨x0, x1, -, -⟩ := HX1.out.two; obtain ⟨r0, r1, r2, f0, f1, f2⟩ := HR1.out.three; obtain ⟨-, n0, n1, n2⟩ := HR1.out.three_set (.bool false) (.slice none 0 0) (.slice none 0 0)) | ((with_reducible refine (HD2.out _).mono ?_); rintro e w3 ⟨rfl, hB2⟩; have hX2 := HX1.out.later hB2; have hR2 := HR1.out.later hB2; have hBe2 := HBe1.out.trans (hB2.mono HBe1.out.size); have HX2 := Lib.hid hX2; have HR2 := Lib.hid hR2; have HBe2 := Lib.hid hBe2; clear hB2 hX2 hR2 hBe2 x0 x1 r0 r1 r2 f0 f1 f2 n0 n1 n2; obtain ⟨x0, x1, -, -⟩ := HX2.out.two; obtain ⟨r0, r1, r2, f0, f1, f2⟩ := HR2.out.three; obtain ⟨-, n0, n1, n2⟩ := HR2.out.three_set (.bool false) (.slice none 0 0) (.slice none 0 0))))
      refine bodyPost_ret (v := .tuple #[zeroN, .int .i64 4]) (by simp [results, Tryz.results77, go_sem, n0, n1, n2, zeroN]) rfl ?_
      exact ⟨below_three HBe2.out (by omega) _ _ _, _, _, rfl, .inr ⟨by decide, rfl, fun h => absurd ((Nt.ok_iff.1 h).n0 (HP.out.trans HZ.out)) (by rw [← HM.out]; decide)⟩⟩
    case false =>
      by_cases hs1 : (300 : Int) < p.size
      case pos =>
        have HZ := Lib.hid hs1
        go_enter Tryz.func77, Tryz.ntmps77
        go_wp2_with (first | (go_at_call 100; refine (HCUT.out _).mono ?_; rintro e w1 ⟨rfl, rfl⟩) | (go_at_call 101; first | ((with_reducible refine (HD1.out _).mono ?_); rintro e w2 ⟨rfl, hB1⟩; have hX1 := ((Blk.new w 24 #[.string sn, .string sd]).alloc (.cells #[.bool false, .slice none 0 0, .slice none 0 0] 67)).later hB1; have HX1 := Lib.hid hX1; have hR1 := (Blk.new (w.alloc (.cells #[.string sn, .string sd] 24)) 67 #[.bool false, .slice none 0 0, .slice none 0 0]).later hB1; rw [World.size_alloc] at hR1; have HR1 := Lib.hid hR1; have hBe1 := (((Below.refl _ w).alloc (Nat.le_refl _) (.cells #[.string sn, .string sd] 24)).alloc (by simp) (.cells #[.bool false, .slice none 0 0, .slice none 0 0] 67)).trans (hB1.mono (by simp; omega)); have HBe1 := Lib.hid hBe1; clear hR1 hB1 hX1 hBe1; obtain ⟨x0, x1, -, -⟩ := HX1.out.two; obtain ⟨r0, r1, r2, f0, f1, f2⟩ := HR1.out.three; obtain ⟨-, n0, n1, n2⟩ := HR1.out.three_set (.bool false) (.slice none 0 0) (.slice none 0 0)) | ((with_reducible refine (HD2.out _).mono ?_); rintro e w3 ⟨rfl, hB2⟩; have hX2 := HX1.out.later hB2; have hR2 := HR1.out.later hB2; have hBe2 := HBe1.out.trans (hB2.mono HBe1.out.size); have HX2 := Lib.hid hX2; have HR2 := Lib.hid hR2; have HBe2 := Lib.hid hBe2; clear hB2 hX2 hR2 hBe2 x0 x1 r0 r1 r2 f0 f1 f2 n0 n1 n2; obtain ⟨x0, x1, -, -⟩ := HX2.out.two; obtain ⟨r0, r1, r2, f0, f1, f2⟩ := HR2.out.three; obtain ⟨-, n0, n1, n2⟩ := HR2.out.three_set (.bool false) (.slice none 0 0) (.slice none 0 0))))
        refine bodyPost_ret (v := .tuple #[zeroN, .int .i64 3]) (by simp [results, Tryz.results77, go_sem, n0, n1, n2, zeroN]) rfl ?_
        exact ⟨below_three HBe2.out (by omega) _ _ _, _, _, rfl, .inr ⟨by decide, rfl, fun h => absurd (Nt.ok_iff.1 h).ln (by rw [HP.out]; have e : p.data.toList.length = p.size := rfl; have := HZ.out; omega)⟩⟩
      by_cases hs2 : (300 : Int) < sd.size
      case pos =>
        have HZ := Lib.hid hs2
        go_enter Tryz.func77, Tryz.ntmps77
        go_wp2_with (first | (go_at_call 100; refine (HCUT.out _).mono ?_; rintro e w1 ⟨rfl, rfl⟩) | (go_at_call 101; first | ((with_reducible refine (HD1.out _).mono ?_); rintro e w2 ⟨rfl, hB1⟩; have hX1 := ((Blk.new w 24 #[.string sn, .string sd]).alloc (.cells #[.bool false, .slice none 0 0, .slice none 0 0] 67)).later hB1; have HX1 := Lib.hid hX1; have hR1 := (Blk.new (w.alloc (.cells #[.string sn, .string sd] 24)) 67 #[.bool false, .slice none 0 0, .slice none 0 0]).later hB1; rw [World.size_alloc] at hR1; have HR1 := Lib.hid hR1; have hBe1 := (((Below.refl _ w).alloc (Nat.le_refl _) (.cells #[.string sn, .string sd] 24)).alloc (by simp) (.cells #[.bool false, .slice none 0 0, .slice none 0 0] 67)).trans (hB1.mono (by simp; omega)); have HBe1 := Lib.hid hBe1; clear hR1 hB1 hX1 hBe1; obtain ⟨x0, x1, -, -⟩ := HX1.out.two; obtain ⟨r0, r1, r2, f0, f1, f2⟩ := HR1.out.three; obtain ⟨-, n0, n1, n2⟩ := HR1.out.three_set (.bool false) (.slice none 0 0) (.slice none 0 0)) | ((with_reducible refine (HD2.out _).mono ?_); rintro e w3 ⟨rfl, hB2⟩; have hX2 := HX1.out.later hB2; have hR2 := HR1.out.later hB2; have hBe2 := HBe1.out.trans (hB2.mono HBe1.out.size); have HX2 := Lib.hid hX2; have HR2 := Lib.hid hR2; have HBe2 := Lib.hid hBe2; clear hB2 hX2 hR2 hBe2 x0 x1 r0 r1 r2 f0 f1 f2 n0 n1 n2; obtain ⟨x0, x1, -, -⟩ := HX2.out.two; obtain ⟨r0, r1, r2, f0, f1, f2⟩ := HR2.out.three; obtain ⟨-, n0, n1, n2⟩ := HR2.out.three_set (.bool false) (.slice none 0 0) (.slice none 0 0))))
        refine bodyPost_ret (v := .tuple #[zeroN, .int .i64 3]) (by simp [results, Tryz.results77, go_sem, n0, n1, n2, zeroN]) rfl ?_
        exact ⟨below_three HBe2.out (by omega) _ _ _, _, _, rfl, .inr ⟨by decide, rfl, fun h => absurd (Nt.ok_iff.1 h).ld (by have e : sd.data.toList.length = sd.size := rfl; have := HZ.out; omega)⟩⟩
      have HPA1 := Lib.hid fun W => parse_t p W HDn1.out (by omega)
      have HPA2 := Lib.hid fun W => parse_t sd W HDn2.out (by omega)
      go_enter Tryz.func77, Tryz.ntmps77
      go_upto_region 6 with (first | (go_at_call 100; refine (HCUT.out _).mono ?_; rintro e w1 ⟨rfl, rfl⟩) | (go_at_call 101; first | ((with_reducible refine (HD1.out _).mono ?_); rintro e w2 ⟨rfl, hB1⟩; have hX1 := ((Blk.new w 24 #[.string sn, .string sd]).alloc (.cells #[.bool false, .slice none 0 0, .slice none 0 0] 67)).later hB1; have HX1 := Lib.hid hX1; have hR1 := (Blk.new (w.alloc (.cells #[.string sn, .string sd] 24)) 67 #[.bool false, .slice none 0 0, .slice none 0 0]).later hB1; rw [World.size_alloc] at hR1; have HR1 := Lib.hid hR1; have hBe1 := (((Below.refl _ w).alloc (Nat.le_refl _) (.cells #[.string sn, .string sd] 24)).alloc (by simp) (.cells #[.bool false, .slice none 0 0, .slice none 0 0] 67)).trans (hB1.mono (by simp; omega)); have HBe1 := Lib.hid hBe1; clear hR1 hB1 hX1 hBe1; obtain ⟨x0, x1, -, -⟩ := HX1.out.two; obtain ⟨r0, r1, r2, f0, f1, f2⟩ := HR1.out.three; obtain ⟨-, n0, n1, n2⟩ := HR1.out.three_set (.bool false) (.slice none 0 0) (.slice none 0 0)) | ((with_reducible refine (HD2.out _).mono ?_); rintro e w3 ⟨rfl, hB2⟩; have hX2 := HX1.out.later hB2; have hR2 := HR1.out.later hB2; have hBe2 := HBe1.out.trans (hB2.mono HBe1.out.size); have HX2 := Lib.hid hX2; have HR2 := Lib.hid hR2; have HBe2 := Lib.hid hBe2; clear hB2 hX2 hR2 hBe2 x0 x1 r0 r1 r2 f0 f1 f2 n0 n1 n2; obtain ⟨x0, x1, -, -⟩ := HX2.out.two; obtain ⟨r0, r1, r2, f0, f1, f2⟩ := HR2.out.three; obtain ⟨-, n0, n1, n2⟩ := HR2.out.three_set (.bool false) (.slice none 0 0) (.slice none 0 0))))
      go_cut [6] (fun v wx => ∃ z A1 c1 A2 c2, v = .pointer (some ⟨z, 0, none⟩) ∧ Blk wx z 67 #[.bool false, .slice A1 (Nt.digs (Nt.dval p.data.toList)).length c1, .slice A2 (Nt.digs (Nt.dval sd.data.toList)).length c2] ∧ Nv wx (.slice A1 (Nt.digs (Nt.dval p.data.toList)).length c1) (Nt.digs (Nt.dval p.data.toList)) ∧ Nv wx (.slice A2 (Nt.digs (Nt.dval sd.data.toList)).length c2) (Nt.digs (Nt.dval sd.data.toList)) ∧ Blk wx (w.heap.size + 1) 67 #[.bool false, .slice none 0 0, .slice none 0 0] ∧ Below w.heap.size w wx ∧ w.heap.size + 1 < z)
      case first =>
        have hP3 : RP w sn sd w3 := ⟨HX2.out, HR2.out, HBe2.out⟩
        have hz3 : Blk (w3.alloc (.cells #[.bool false, .slice none 0 0, .slice none 0 0] 67)).drew w3.heap.size 67 #[.bool false, .slice none 0 0, .slice none 0 0] := (Blk.new w3 67 #[.bool false, .slice none 0 0, .slice none 0 0]).drew
        have HZ3 := Lib.hid hz3
        clear hz3
        have HP3 := Lib.hid hP3
        have l3 : w.heap.size + 1 < w3.heap.size := hP3.lt
        clear hP3 r0 r1 r2 f0 f1 f2 n0 n1 n2
        go_region_held3 (fun w' => w'.cell? ⟨w.heap.size, 1, none⟩ = some (.string sd)) (first | assumption | (with_reducible exact x1) | (with_reducible exact (HP5.out.alloc _).c1) | (with_reducible exact (HP4.out.alloc _).c1) | (with_reducible exact (HP3.out.alloc _).c1) | (with_reducible exact (HP3.out.alloc _).drew.c1) | (with_reducible exact HP3.out.drew.c1) | (with_reducible exact ((HP5.out.alloc _).three l5 _ _ _).c1) | (with_reducible exact (HP5.out.three l4 _ _ _).c1) | (with_reducible exact (HP5.out.three l3 _ _ _).c1)) (first | (go_at_call 102; (with_reducible refine (HPA1.out _).mono ?_); rintro e w4 ⟨A1, c1, rfl, hn1, hb1⟩; (try ((with_reducible have hq := HZ3.out.later hb1); have HZ4 := Lib.hid hq; obtain ⟨z0, z1, z2, g0, g1, g2⟩ := hq.three; clear hq)); have hP4 : RP w sn sd w4 := (by first | (with_reducible exact HP3.out.drew.step hb1) | (with_reducible exact (HP3.out.alloc _).drew.step hb1)); have HP4 := Lib.hid hP4; have l4 := hP4.lt; have y1 := hP4.c1; have HN4 := Lib.hid hn1; clear hP4 hb1 hn1) | (go_at_call 102; (with_reducible refine (HPA2.out _).mono ?_); rintro e w5 ⟨A2, c2, rfl, hn2, hb2⟩; (first | ((with_reducible have hq := (Blk.new w4 67 #[.bool false, .slice none 0 0, .slice none 0 0]).later hb2); have HZ5 := Lib.hid hq; obtain ⟨z0, z1, z2, g0, g1, g2⟩ := hq.three; clear hq) | ((with_reducible have hq := HZ4.out.later hb2); have HZ5 := Lib.hid hq; clear z0 z1 z2 g0 g1 g2; obtain ⟨z0, z1, z2, g0, g1, g2⟩ := hq.three; clear hq) | skip); have hP5 : RP w sn sd w5 := (by first | (with_reducible exact HP4.out.step hb2) | (with_reducible exact (HP4.out.alloc _).step hb2)); have HP5 := Lib.hid hP5; have l5 := hP5.lt; have y2 := hP5.c1; have hN5 := (by first | (with_reducible exact HN4.out.below hb2) | (with_reducible exact (HN4.out.below ((Below.refl _ w4).alloc (Nat.le_refl _) _)).below hb2) : Nv w5 (.slice A1 (Nt.digs (Nt.dval p.data.toList)).length c1) (Nt.digs (Nt.dval p.data.toList))); have HN5 := Lib.hid hN5; have HM5 := Lib.hid hn2; clear hP5 hb2 hn2 hN5))
        · go_wp2_with fail
          go_meet
          exact ⟨_, A1, c1, A2, c2, rfl, Blk.new w5 _ _, HN5.out.below ((Below.refl _ w5).alloc (Nat.le_refl _) _), HM5.out.below ((Below.refl _ w5).alloc (Nat.le_refl _) _), (HP5.out.alloc _).2.1, (HP5.out.alloc _).2.2, l5⟩
        · go_wp2_with fail
          go_meet
          exact ⟨_, A1, c1, A2, c2, rfl, (HZ5.out.three_set _ _ _).1, HN5.out.apart HZ5.out _ _ _, HM5.out.apart HZ5.out _ _ _, (HP5.out.three l4 _ _ _).2.1, (HP5.out.three l4 _ _ _).2.2, l4⟩
        · go_wp2_with fail
          go_meet
          exact ⟨_, A1, c1, A2, c2, rfl, (HZ5.out.three_set _ _ _).1, HN5.out.apart HZ5.out _ _ _, HM5.out.apart HZ5.out _ _ _, (HP5.out.three l3 _ _ _).2.1, (HP5.out.three l3 _ _ _).2.2, l3⟩
      case rest =>
        obtain ⟨z, A1, c1, A2, c2, rfl, hz, hn, hd, hr, hb, hlt⟩ := hcut
        clear HPA1 HPA2 HD1 HD2 HCUT
        have HL1 := Lib.hid (digs_300 HDn1.out (by have e : p.data.toList.length = p.size := rfl; omega))
        have HL2 := Lib.hid (digs_300 HDn2.out (by have e : sd.data.toList.length = sd.size := rfl; omega))
        by_cases hg : Nat.gcd (Nt.dval p.data.toList) (Nt.dval sd.data.toList) = 1
        case pos =>
          have HG := Lib.hid hg
          obtain ⟨a0, a1, a2, -, -, -⟩ := hz.three
          have HN := Lib.hid hn
          have HDD := Lib.hid hd
          have HR := Lib.hid hr
          have HB := Lib.hid hb
          have HZb := Lib.hid hz
          clear hz hn hd hr hb hg
          go_wp2_with (first | (go_at_call 78; refine (common_any _ _ _ _ _ HN.out HDD.out HL1.out HL2.out).mono ?_; rintro e w7 ⟨v7, rfl, hn7, hb7⟩; have HN7 := Lib.hid hn7; have hz7 := HZb.out.later hb7; have hr7 := HR.out.later hb7; have hB7 := HB.out.trans (hb7.mono HB.out.size); have HB7 := Lib.hid hB7; have HR7 := Lib.hid hr7; have HNa := Lib.hid (HN.out.below hb7); have HNb := Lib.hid (HDD.out.below hb7); clear a0 a1 a2 hb7 hn7 hB7; obtain ⟨a0, a1, a2, -, -, -⟩ := hz7.three; obtain ⟨r0, r1, r2, f0, f1, f2⟩ := hr7.three; clear hz7 hr7) | (go_at_call 103; refine (one_t _ _ _ HN7.out HG.out).mono ?_; rintro e w8 ⟨rfl, rfl⟩))
          obtain ⟨-, n0, n1, n2⟩ := HR7.out.three_set (.bool false) (.slice A1 (Nt.digs (Nt.dval p.data.toList)).length c1) (.slice A2 (Nt.digs (Nt.dval sd.data.toList)).length c2)
          refine bodyPost_ret (v := .tuple #[.agg #[.bool false, (.slice A1 (Nt.digs (Nt.dval p.data.toList)).length c1), (.slice A2 (Nt.digs (Nt.dval sd.data.toList)).length c2)], .int .i64 0]) (by simp [results, Tryz.results77, go_sem, n0, n1, n2]) rfl ?_
          refine ⟨below_three HB7.out (by omega) _ _ _, _, _, rfl, .inl ⟨rfl, _, _, _, Nt.read_rd HP.out HM.out HDn1.out HDn2.out ?_ ?_ ?_ ?_ HG.out, ⟨_, _, rfl, HNa.out.apart HR7.out _ _ _, HNb.out.apart HR7.out _ _ _⟩⟩⟩
          · rw [Lib.toList_data] at hz; simpa using hz
          · exact fun _ => rfl
          · have e : p.data.toList.length = p.size := rfl
            omega
          · have e : sd.data.toList.length = sd.size := rfl
            omega
        case neg =>
          have HG := Lib.hid hg
          obtain ⟨a0, a1, a2, -, -, -⟩ := hz.three
          have HN := Lib.hid hn
          have HDD := Lib.hid hd
          have HR := Lib.hid hr
          have HB := Lib.hid hb
          have HZb := Lib.hid hz
          clear hz hn hd hr hb hg
          go_wp2_with (first | (go_at_call 78; refine (common_any _ _ _ _ _ HN.out HDD.out HL1.out HL2.out).mono ?_; rintro e w7 ⟨v7, rfl, hn7, hb7⟩; have HN7 := Lib.hid hn7; have hz7 := HZb.out.later hb7; have hr7 := HR.out.later hb7; have hB7 := HB.out.trans (hb7.mono HB.out.size); have HB7 := Lib.hid hB7; have HR7 := Lib.hid hr7; have HNa := Lib.hid (HN.out.below hb7); have HNb := Lib.hid (HDD.out.below hb7); clear a0 a1 a2 hb7 hn7 hB7; obtain ⟨a0, a1, a2, -, -, -⟩ := hz7.three; obtain ⟨r0, r1, r2, f0, f1, f2⟩ := hr7.three; clear hz7 hr7) | (go_at_call 103; refine (one_f _ _ _ HN7.out HG.out).mono ?_; rintro e w8 ⟨rfl, rfl⟩))
          obtain ⟨-, n0, n1, n2⟩ := HR7.out.three_set (.bool false) (.slice none 0 0) (.slice none 0 0)
          refine bodyPost_ret (v := .tuple #[zeroN, .int .i64 4]) (by simp [results, Tryz.results77, go_sem, n0, n1, n2, zeroN]) rfl ?_
          exact ⟨below_three HB7.out (by omega) _ _ _, _, _, rfl, .inr ⟨by decide, rfl, fun h => HG.out (by have h8 := (Nt.ok_iff.1 h).g; rw [HP.out] at h8; exact h8)⟩⟩
  case false =>
    by_cases hs1 : (300 : Int) < p.size
    case pos =>
      have HZ := Lib.hid hs1
      go_enter Tryz.func77, Tryz.ntmps77
      go_wp2_with (first | (go_at_call 100; refine (HCUT.out _).mono ?_; rintro e w1 ⟨rfl, rfl⟩) | (go_at_call 101; first | ((with_reducible refine (HD1.out _).mono ?_); rintro e w2 ⟨rfl, hB1⟩; have hX1 := ((Blk.new w 24 #[.string sn, .string sd]).alloc (.cells #[.bool false, .slice none 0 0, .slice none 0 0] 67)).later hB1; have HX1 := Lib.hid hX1; have hR1 := (Blk.new (w.alloc (.cells #[.string sn, .string sd] 24)) 67 #[.bool false, .slice none 0 0, .slice none 0 0]).later hB1; rw [World.size_alloc] at hR1; have HR1 := Lib.hid hR1; have hBe1 := (((Below.refl _ w).alloc (Nat.le_refl _) (.cells #[.string sn, .string sd] 24)).alloc (by simp) (.cells #[.bool false, .slice none 0 0, .slice none 0 0] 67)).trans (hB1.mono (by simp; omega)); have HBe1 := Lib.hid hBe1; clear hR1 hB1 hX1 hBe1; obtain ⟨x0, x1, -, -⟩ := HX1.out.two; obtain ⟨r0, r1, r2, f0, f1, f2⟩ := HR1.out.three; obtain ⟨-, n0, n1, n2⟩ := HR1.out.three_set (.bool false) (.slice none 0 0) (.slice none 0 0)) | ((with_reducible refine (HD2.out _).mono ?_); rintro e w3 ⟨rfl, hB2⟩; have hX2 := HX1.out.later hB2; have hR2 := HR1.out.later hB2; have hBe2 := HBe1.out.trans (hB2.mono HBe1.out.size); have HX2 := Lib.hid hX2; have HR2 := Lib.hid hR2; have HBe2 := Lib.hid hBe2; clear hB2 hX2 hR2 hBe2 x0 x1 r0 r1 r2 f0 f1 f2 n0 n1 n2; obtain ⟨x0, x1, -, -⟩ := HX2.out.two; obtain ⟨r0, r1, r2, f0, f1, f2⟩ := HR2.out.three; obtain ⟨-, n0, n1, n2⟩ := HR2.out.three_set (.bool false) (.slice none 0 0) (.slice none 0 0))))
      refine bodyPost_ret (v := .tuple #[zeroN, .int .i64 3]) (by simp [results, Tryz.results77, go_sem, n0, n1, n2, zeroN]) rfl ?_
      exact ⟨below_three HBe2.out (by omega) _ _ _, _, _, rfl, .inr ⟨by decide, rfl, fun h => absurd (Nt.ok_iff.1 h).ln (by rw [HP.out]; have e : p.data.toList.length = p.size := rfl; have := HZ.out; omega)⟩⟩
    by_cases hs2 : (300 : Int) < sd.size
    case pos =>
      have HZ := Lib.hid hs2
      go_enter Tryz.func77, Tryz.ntmps77
      go_wp2_with (first | (go_at_call 100; refine (HCUT.out _).mono ?_; rintro e w1 ⟨rfl, rfl⟩) | (go_at_call 101; first | ((with_reducible refine (HD1.out _).mono ?_); rintro e w2 ⟨rfl, hB1⟩; have hX1 := ((Blk.new w 24 #[.string sn, .string sd]).alloc (.cells #[.bool false, .slice none 0 0, .slice none 0 0] 67)).later hB1; have HX1 := Lib.hid hX1; have hR1 := (Blk.new (w.alloc (.cells #[.string sn, .string sd] 24)) 67 #[.bool false, .slice none 0 0, .slice none 0 0]).later hB1; rw [World.size_alloc] at hR1; have HR1 := Lib.hid hR1; have hBe1 := (((Below.refl _ w).alloc (Nat.le_refl _) (.cells #[.string sn, .string sd] 24)).alloc (by simp) (.cells #[.bool false, .slice none 0 0, .slice none 0 0] 67)).trans (hB1.mono (by simp; omega)); have HBe1 := Lib.hid hBe1; clear hR1 hB1 hX1 hBe1; obtain ⟨x0, x1, -, -⟩ := HX1.out.two; obtain ⟨r0, r1, r2, f0, f1, f2⟩ := HR1.out.three; obtain ⟨-, n0, n1, n2⟩ := HR1.out.three_set (.bool false) (.slice none 0 0) (.slice none 0 0)) | ((with_reducible refine (HD2.out _).mono ?_); rintro e w3 ⟨rfl, hB2⟩; have hX2 := HX1.out.later hB2; have hR2 := HR1.out.later hB2; have hBe2 := HBe1.out.trans (hB2.mono HBe1.out.size); have HX2 := Lib.hid hX2; have HR2 := Lib.hid hR2; have HBe2 := Lib.hid hBe2; clear hB2 hX2 hR2 hBe2 x0 x1 r0 r1 r2 f0 f1 f2 n0 n1 n2; obtain ⟨x0, x1, -, -⟩ := HX2.out.two; obtain ⟨r0, r1, r2, f0, f1, f2⟩ := HR2.out.three; obtain ⟨-, n0, n1, n2⟩ := HR2.out.three_set (.bool false) (.slice none 0 0) (.slice none 0 0))))
      refine bodyPost_ret (v := .tuple #[zeroN, .int .i64 3]) (by simp [results, Tryz.results77, go_sem, n0, n1, n2, zeroN]) rfl ?_
      exact ⟨below_three HBe2.out (by omega) _ _ _, _, _, rfl, .inr ⟨by decide, rfl, fun h => absurd (Nt.ok_iff.1 h).ld (by have e : sd.data.toList.length = sd.size := rfl; have := HZ.out; omega)⟩⟩
    have HPA1 := Lib.hid fun W => parse_t p W HDn1.out (by omega)
    have HPA2 := Lib.hid fun W => parse_t sd W HDn2.out (by omega)
    go_enter Tryz.func77, Tryz.ntmps77
    go_upto_region 6 with (first | (go_at_call 100; refine (HCUT.out _).mono ?_; rintro e w1 ⟨rfl, rfl⟩) | (go_at_call 101; first | ((with_reducible refine (HD1.out _).mono ?_); rintro e w2 ⟨rfl, hB1⟩; have hX1 := ((Blk.new w 24 #[.string sn, .string sd]).alloc (.cells #[.bool false, .slice none 0 0, .slice none 0 0] 67)).later hB1; have HX1 := Lib.hid hX1; have hR1 := (Blk.new (w.alloc (.cells #[.string sn, .string sd] 24)) 67 #[.bool false, .slice none 0 0, .slice none 0 0]).later hB1; rw [World.size_alloc] at hR1; have HR1 := Lib.hid hR1; have hBe1 := (((Below.refl _ w).alloc (Nat.le_refl _) (.cells #[.string sn, .string sd] 24)).alloc (by simp) (.cells #[.bool false, .slice none 0 0, .slice none 0 0] 67)).trans (hB1.mono (by simp; omega)); have HBe1 := Lib.hid hBe1; clear hR1 hB1 hX1 hBe1; obtain ⟨x0, x1, -, -⟩ := HX1.out.two; obtain ⟨r0, r1, r2, f0, f1, f2⟩ := HR1.out.three; obtain ⟨-, n0, n1, n2⟩ := HR1.out.three_set (.bool false) (.slice none 0 0) (.slice none 0 0)) | ((with_reducible refine (HD2.out _).mono ?_); rintro e w3 ⟨rfl, hB2⟩; have hX2 := HX1.out.later hB2; have hR2 := HR1.out.later hB2; have hBe2 := HBe1.out.trans (hB2.mono HBe1.out.size); have HX2 := Lib.hid hX2; have HR2 := Lib.hid hR2; have HBe2 := Lib.hid hBe2; clear hB2 hX2 hR2 hBe2 x0 x1 r0 r1 r2 f0 f1 f2 n0 n1 n2; obtain ⟨x0, x1, -, -⟩ := HX2.out.two; obtain ⟨r0, r1, r2, f0, f1, f2⟩ := HR2.out.three; obtain ⟨-, n0, n1, n2⟩ := HR2.out.three_set (.bool false) (.slice none 0 0) (.slice none 0 0))))
    go_cut [6] (fun v wx => ∃ z A1 c1 A2 c2, v = .pointer (some ⟨z, 0, none⟩) ∧ Blk wx z 67 #[.bool m, .slice A1 (Nt.digs (Nt.dval p.data.toList)).length c1, .slice A2 (Nt.digs (Nt.dval sd.data.toList)).length c2] ∧ Nv wx (.slice A1 (Nt.digs (Nt.dval p.data.toList)).length c1) (Nt.digs (Nt.dval p.data.toList)) ∧ Nv wx (.slice A2 (Nt.digs (Nt.dval sd.data.toList)).length c2) (Nt.digs (Nt.dval sd.data.toList)) ∧ Blk wx (w.heap.size + 1) 67 #[.bool false, .slice none 0 0, .slice none 0 0] ∧ Below w.heap.size w wx ∧ w.heap.size + 1 < z)
    case first =>
      have hP3 : RP w sn sd w3 := ⟨HX2.out, HR2.out, HBe2.out⟩
      have hz3 : Blk (w3.alloc (.cells #[.bool false, .slice none 0 0, .slice none 0 0] 67)).drew w3.heap.size 67 #[.bool false, .slice none 0 0, .slice none 0 0] := (Blk.new w3 67 #[.bool false, .slice none 0 0, .slice none 0 0]).drew
      have HZ3 := Lib.hid hz3
      clear hz3
      have HP3 := Lib.hid hP3
      have l3 : w.heap.size + 1 < w3.heap.size := hP3.lt
      clear hP3 r0 r1 r2 f0 f1 f2 n0 n1 n2
      go_region_held3 (fun w' => w'.cell? ⟨w.heap.size, 1, none⟩ = some (.string sd)) (first | assumption | (with_reducible exact x1) | (with_reducible exact (HP5.out.alloc _).c1) | (with_reducible exact (HP4.out.alloc _).c1) | (with_reducible exact (HP3.out.alloc _).c1) | (with_reducible exact (HP3.out.alloc _).drew.c1) | (with_reducible exact HP3.out.drew.c1) | (with_reducible exact ((HP5.out.alloc _).three l5 _ _ _).c1) | (with_reducible exact (HP5.out.three l4 _ _ _).c1) | (with_reducible exact (HP5.out.three l3 _ _ _).c1)) (first | (go_at_call 102; (with_reducible refine (HPA1.out _).mono ?_); rintro e w4 ⟨A1, c1, rfl, hn1, hb1⟩; (try ((with_reducible have hq := HZ3.out.later hb1); have HZ4 := Lib.hid hq; obtain ⟨z0, z1, z2, g0, g1, g2⟩ := hq.three; clear hq)); have hP4 : RP w sn sd w4 := (by first | (with_reducible exact HP3.out.drew.step hb1) | (with_reducible exact (HP3.out.alloc _).drew.step hb1)); have HP4 := Lib.hid hP4; have l4 := hP4.lt; have y1 := hP4.c1; have HN4 := Lib.hid hn1; clear hP4 hb1 hn1) | (go_at_call 102; (with_reducible refine (HPA2.out _).mono ?_); rintro e w5 ⟨A2, c2, rfl, hn2, hb2⟩; (first | ((with_reducible have hq := (Blk.new w4 67 #[.bool false, .slice none 0 0, .slice none 0 0]).later hb2); have HZ5 := Lib.hid hq; obtain ⟨z0, z1, z2, g0, g1, g2⟩ := hq.three; clear hq) | ((with_reducible have hq := HZ4.out.later hb2); have HZ5 := Lib.hid hq; clear z0 z1 z2 g0 g1 g2; obtain ⟨z0, z1, z2, g0, g1, g2⟩ := hq.three; clear hq) | skip); have hP5 : RP w sn sd w5 := (by first | (with_reducible exact HP4.out.step hb2) | (with_reducible exact (HP4.out.alloc _).step hb2)); have HP5 := Lib.hid hP5; have l5 := hP5.lt; have y2 := hP5.c1; have hN5 := (by first | (with_reducible exact HN4.out.below hb2) | (with_reducible exact (HN4.out.below ((Below.refl _ w4).alloc (Nat.le_refl _) _)).below hb2) : Nv w5 (.slice A1 (Nt.digs (Nt.dval p.data.toList)).length c1) (Nt.digs (Nt.dval p.data.toList))); have HN5 := Lib.hid hN5; have HM5 := Lib.hid hn2; clear hP5 hb2 hn2 hN5))
      · go_wp2_with fail
        go_meet
        exact ⟨_, A1, c1, A2, c2, rfl, Blk.new w5 _ _, HN5.out.below ((Below.refl _ w5).alloc (Nat.le_refl _) _), HM5.out.below ((Below.refl _ w5).alloc (Nat.le_refl _) _), (HP5.out.alloc _).2.1, (HP5.out.alloc _).2.2, l5⟩
      · go_wp2_with fail
        go_meet
        exact ⟨_, A1, c1, A2, c2, rfl, (HZ5.out.three_set _ _ _).1, HN5.out.apart HZ5.out _ _ _, HM5.out.apart HZ5.out _ _ _, (HP5.out.three l4 _ _ _).2.1, (HP5.out.three l4 _ _ _).2.2, l4⟩
      · go_wp2_with fail
        go_meet
        exact ⟨_, A1, c1, A2, c2, rfl, (HZ5.out.three_set _ _ _).1, HN5.out.apart HZ5.out _ _ _, HM5.out.apart HZ5.out _ _ _, (HP5.out.three l3 _ _ _).2.1, (HP5.out.three l3 _ _ _).2.2, l3⟩
    case rest =>
      obtain ⟨z, A1, c1, A2, c2, rfl, hz, hn, hd, hr, hb, hlt⟩ := hcut
      clear HPA1 HPA2 HD1 HD2 HCUT
      have HL1 := Lib.hid (digs_300 HDn1.out (by have e : p.data.toList.length = p.size := rfl; omega))
      have HL2 := Lib.hid (digs_300 HDn2.out (by have e : sd.data.toList.length = sd.size := rfl; omega))
      by_cases hg : Nat.gcd (Nt.dval p.data.toList) (Nt.dval sd.data.toList) = 1
      case pos =>
        have HG := Lib.hid hg
        obtain ⟨a0, a1, a2, -, -, -⟩ := hz.three
        have HN := Lib.hid hn
        have HDD := Lib.hid hd
        have HR := Lib.hid hr
        have HB := Lib.hid hb
        have HZb := Lib.hid hz
        clear hz hn hd hr hb hg
        go_wp2_with (first | (go_at_call 78; refine (common_any _ _ _ _ _ HN.out HDD.out HL1.out HL2.out).mono ?_; rintro e w7 ⟨v7, rfl, hn7, hb7⟩; have HN7 := Lib.hid hn7; have hz7 := HZb.out.later hb7; have hr7 := HR.out.later hb7; have hB7 := HB.out.trans (hb7.mono HB.out.size); have HB7 := Lib.hid hB7; have HR7 := Lib.hid hr7; have HNa := Lib.hid (HN.out.below hb7); have HNb := Lib.hid (HDD.out.below hb7); clear a0 a1 a2 hb7 hn7 hB7; obtain ⟨a0, a1, a2, -, -, -⟩ := hz7.three; obtain ⟨r0, r1, r2, f0, f1, f2⟩ := hr7.three; clear hz7 hr7) | (go_at_call 103; refine (one_t _ _ _ HN7.out HG.out).mono ?_; rintro e w8 ⟨rfl, rfl⟩))
        obtain ⟨-, n0, n1, n2⟩ := HR7.out.three_set (.bool m) (.slice A1 (Nt.digs (Nt.dval p.data.toList)).length c1) (.slice A2 (Nt.digs (Nt.dval sd.data.toList)).length c2)
        refine bodyPost_ret (v := .tuple #[.agg #[.bool m, (.slice A1 (Nt.digs (Nt.dval p.data.toList)).length c1), (.slice A2 (Nt.digs (Nt.dval sd.data.toList)).length c2)], .int .i64 0]) (by simp [results, Tryz.results77, go_sem, n0, n1, n2]) rfl ?_
        refine ⟨below_three HB7.out (by omega) _ _ _, _, _, rfl, .inl ⟨rfl, _, _, _, Nt.read_rd HP.out HM.out HDn1.out HDn2.out ?_ ?_ ?_ ?_ HG.out, ⟨_, _, rfl, HNa.out.apart HR7.out _ _ _, HNb.out.apart HR7.out _ _ _⟩⟩⟩
        · rw [Lib.toList_data] at hz; simpa using hz
        · intro e; rw [Lib.toList_data, e] at hzp; exact absurd hzp (by decide)
        · have e : p.data.toList.length = p.size := rfl
          omega
        · have e : sd.data.toList.length = sd.size := rfl
          omega
      case neg =>
        have HG := Lib.hid hg
        obtain ⟨a0, a1, a2, -, -, -⟩ := hz.three
        have HN := Lib.hid hn
        have HDD := Lib.hid hd
        have HR := Lib.hid hr
        have HB := Lib.hid hb
        have HZb := Lib.hid hz
        clear hz hn hd hr hb hg
        go_wp2_with (first | (go_at_call 78; refine (common_any _ _ _ _ _ HN.out HDD.out HL1.out HL2.out).mono ?_; rintro e w7 ⟨v7, rfl, hn7, hb7⟩; have HN7 := Lib.hid hn7; have hz7 := HZb.out.later hb7; have hr7 := HR.out.later hb7; have hB7 := HB.out.trans (hb7.mono HB.out.size); have HB7 := Lib.hid hB7; have HR7 := Lib.hid hr7; have HNa := Lib.hid (HN.out.below hb7); have HNb := Lib.hid (HDD.out.below hb7); clear a0 a1 a2 hb7 hn7 hB7; obtain ⟨a0, a1, a2, -, -, -⟩ := hz7.three; obtain ⟨r0, r1, r2, f0, f1, f2⟩ := hr7.three; clear hz7 hr7) | (go_at_call 103; refine (one_f _ _ _ HN7.out HG.out).mono ?_; rintro e w8 ⟨rfl, rfl⟩))
        obtain ⟨-, n0, n1, n2⟩ := HR7.out.three_set (.bool false) (.slice none 0 0) (.slice none 0 0)
        refine bodyPost_ret (v := .tuple #[zeroN, .int .i64 4]) (by simp [results, Tryz.results77, go_sem, n0, n1, n2, zeroN]) rfl ?_
        exact ⟨below_three HB7.out (by omega) _ _ _, _, _, rfl, .inr ⟨by decide, rfl, fun h => HG.out (by have h8 := (Nt.ok_iff.1 h).g; rw [HP.out] at h8; exact h8)⟩⟩
end Go.Proofs.YtmapagbmihpbmaaGreatDoor

