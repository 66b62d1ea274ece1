/- The contract of exact's read. -/
import Derived.Test.YtllhefjblipddaaGreatDoorNatQ
import Derived.Test.YtllhefjblipddaaGreatDoorGaa
import Derived.Deep.RegionHeld3
import Derived.Test.YtllhefjblipddaaGreatDoorLoc
set_option linter.unusedSimpArgs false
set_option linter.unusedVariables false
namespace Go.Proofs.YtllhefjblipddaaGreatDoor
open Go.RowKit

/-- The value is a number: its sign, its digits. -/
structure Nm (w : World) (x : Value) (m : Bool) (n d : Nat) : Prop where
  ex : ∃ a b, x = .agg #[.bool m, a, b] ∧ Nv w a (Nt.digs n) ∧ Nv w b (Nt.digs d)
namespace Nt
def sgn (m : Bool) : List UInt8 := if m then [45] else []
/-- The strings of a fraction, reduced. -/
structure Rd (num den : List UInt8) (m : Bool) (n d : Nat) : Prop where
  num : num = sgn m ++ Lib.decDigits n
  den : den = Lib.decDigits d
  d0 : d ≠ 0
  n0 : n = 0 → m = false
  ln : (Lib.decDigits n).length ≤ 300
  ld : (Lib.decDigits d).length ≤ 300
  g : Nat.gcd n d = 1
theorem isD_dd {n : Nat} {c : UInt8} {t : List UInt8} (h : Lib.decDigits n = c :: t) : c ≠ 45 := by
  have := allD_dd n c (by rw [h]; simp)
  rintro rfl
  exact absurd this.1 (by decide)
theorem pre_sgn (m : Bool) (n : Nat) : Lib.trimPrefix (sgn m ++ Lib.decDigits n) [45] = Lib.decDigits n ∧ Lib.hasPrefix (sgn m ++ Lib.decDigits n) [45] = m := by
  cases m with
  | true => simp [sgn, Lib.trimPrefix, Lib.hasPrefix]
  | false =>
    cases hd : Lib.decDigits n with
    | nil => exact absurd hd (dd_ne n)
    | cons c t =>
      have := isD_dd hd
      simp [sgn, Lib.trimPrefix, Lib.hasPrefix, List.isPrefixOf, Ne.symm this]
theorem pre_split (l : List UInt8) : sgn (Lib.hasPrefix l [45]) ++ Lib.trimPrefix l [45] = l := by
  unfold Lib.trimPrefix
  by_cases h : Lib.hasPrefix l [45] = true
  · rw [if_pos h, h]
    obtain ⟨t, ht⟩ := List.isPrefixOf_iff_prefix.1 h
    subst ht
    rfl
  · rw [if_neg h]
    simp at h
    rw [h]
    rfl
/-- When a fraction is read. -/
structure Ok (num den : List UInt8) : Prop where
  p : Dn (Lib.trimPrefix num [45])
  d : Dn den
  d0 : den ≠ [48]
  n0 : Lib.trimPrefix num [45] = [48] → Lib.hasPrefix num [45] = false
  ln : (Lib.trimPrefix num [45]).length ≤ 300
  ld : den.length ≤ 300
  g : Nat.gcd (dval (Lib.trimPrefix num [45])) (dval den) = 1
theorem dd_zero (n : Nat) : Lib.decDigits n = [48] ↔ n = 0 := by
  constructor
  · intro h
    have := dval_dd n
    rw [h] at this
    exact this.symm
  · rintro rfl
    exact Lib.decDigits_one (by omega)
theorem Rd.ok {num den : List UInt8} {m : Bool} {n d : Nat} (h : Rd num den m n d) : Ok num den := by
  obtain ⟨e1, e2, h0, h1, h3, h4, h5⟩ := h
  subst e1 e2
  obtain ⟨p1, p2⟩ := pre_sgn m n
  refine ⟨by rw [p1]; exact ⟨n, rfl⟩, ⟨d, rfl⟩, by rw [ne_eq, dd_zero]; exact h0, by rw [p1, p2, dd_zero]; exact h1, by rw [p1]; exact h3, h4, by rw [p1, dval_dd, dval_dd]; exact h5⟩
theorem Ok.rd {num den : List UInt8} (h : Ok num den) : Rd num den (Lib.hasPrefix num [45]) (dval (Lib.trimPrefix num [45])) (dval den) := by
  obtain ⟨⟨n, e1⟩, ⟨d, e2⟩, h0, h1, h3, h4, h5⟩ := h
  have hp := pre_split num
  rw [e1] at h1 h3 h5 hp ⊢
  subst e2
  rw [dval_dd, dval_dd] at h5 ⊢
  exact ⟨hp.symm, rfl, by rw [ne_eq, dd_zero] at h0; exact h0, by rw [dd_zero] at h1; exact h1, h3, h4, h5⟩
theorem read_rd {num den p : List UInt8} {m : Bool} (hP : Lib.trimPrefix num [45] = p) (hM : m = Lib.hasPrefix num [45]) (h1 : Dn p) (h2 : Dn den) (h3 : den ≠ [48]) (h4 : p = [48] → m = false) (h5 : p.length ≤ 300) (h6 : den.length ≤ 300)
    (h7 : Nat.gcd (dval p) (dval den) = 1) : Rd num den m (dval p) (dval den) := by
  subst hP hM
  exact Ok.rd ⟨h1, h2, h3, h4, h5, h6, h7⟩
theorem ok_iff {num den : List UInt8} : (∃ m n d, Rd num den m n d) ↔ Ok num den := ⟨fun ⟨_, _, _, h⟩ => h.ok, fun h => ⟨_, _, _, h.rd⟩⟩
end Nt
theorem digits_t (s : ByteArray) (w : World) (hs : s.size ≤ 9223372036854775807) (h : Nt.Dn s.data.toList) : Calls Tryz.prog 213 #[.string s] w fun e w' => e = .returned (.bool true) ∧ Below w.heap.size w w' := by
  refine (digits_any s w hs).mono ?_
  rintro e w' ⟨b, rfl, hb, hB⟩
  rw [hb.2 h]
  exact ⟨rfl, hB⟩
theorem digits_f (s : ByteArray) (w : World) (hs : s.size ≤ 9223372036854775807) (h : ¬ Nt.Dn s.data.toList) : Calls Tryz.prog 213 #[.string s] w fun e w' => e = .returned (.bool false) ∧ Below w.heap.size w w' := by
  refine (digits_any s w hs).mono ?_
  rintro e w' ⟨b, rfl, hb, hB⟩
  cases b with
  | true => exact absurd (hb.1 rfl) h
  | false => exact ⟨rfl, hB⟩
theorem parse_t (q : ByteArray) (W : World) (h : Nt.Dn q.data.toList) (h3 : (q.size : Int) ≤ 300) : Calls Tryz.prog 21 #[.string q] W fun e w' => ∃ A c, e = .returned (.slice A (Nt.digs (Nt.dval q.data.toList)).length c) ∧ Nv w' (.slice A (Nt.digs (Nt.dval q.data.toList)).length c) (Nt.digs (Nt.dval q.data.toList)) ∧ Below W.heap.size W w' := by
  have e : q.data.toList.length = q.size := rfl
  refine (parse_any q _ W rfl (Nt.dn_iff.1 h).1 (by omega)).mono ?_
  rintro e w' ⟨v, rfl, hv, hb⟩
  obtain ⟨A, c, rfl, _⟩ := hv.ex
  exact ⟨A, c, rfl, hv, hb⟩
theorem Nv.apart {W : World} {v : Value} {l : List Nat} (h : Nv W v l) {z : Nat} {t : TypeId} {b : Bool} {A A' : Option Addr} {n n' c c' : Nat} (hz : Blk W z t #[.bool b, .slice A n c, .slice A' n' c']) (y0 y1 y2 : Value) : Nv (((W.setCell ⟨z, 0, none⟩ y0).setCell ⟨z, 1, none⟩ y1).setCell ⟨z, 2, none⟩ y2) v l := by
  obtain ⟨A, c, rfl, h1, h2, h0, h3⟩ := h.ex
  refine ⟨A, c, rfl, h1, h2, h0, fun hl => ?_⟩
  obtain ⟨g, o, rfl, h4, h5⟩ := h3 hl
  have hne : g ≠ z := by
    rintro rfl
    have e1 := h5 0 hl
    rw [Nat.add_zero, hz.cell] at e1
    match o, e1 with
    | 0, e1 => simp at e1
    | 1, e1 => simp at e1
    | 2, e1 => simp at e1
    | o + 3, e1 => simp at e1
  refine ⟨g, o, rfl, by simpa [World.setCell] using h4, fun i hi => ?_⟩
  rw [World.cell?_setCell_other _ _ _ _ (fun e => by have := congrArg Addr.block e; simp only at this; omega), World.cell?_setCell_other _ _ _ _ (fun e => by have := congrArg Addr.block e; simp only at this; omega), World.cell?_setCell_other _ _ _ _ (fun e => by have := congrArg Addr.block e; simp only at this; omega)]
  exact h5 i hi
theorem digs_300 {l : List UInt8} (h : Nt.Dn l) (h3 : l.length ≤ 300) : (Nt.digs (Nt.dval l)).length ≤ 900000 := by
  have h1 := Nt.dval_lt (Nt.dn_iff.1 h).1
  obtain ⟨k, hk⟩ : ∃ k, k = 34 := ⟨_, rfl⟩
  have h2 : 10 ^ l.length ≤ 10 ^ (9 * k) := Nat.pow_le_pow_right (by decide) (by omega)
  have h4 : Nt.dval l < Nt.B ^ k := Nat.lt_of_lt_of_le h1 (by
    have e : (10 : Nat) ^ (9 * k) = Nt.B ^ k := Nat.pow_mul 10 9 k
    rw [← e]
    exact h2)
  exact Nat.le_trans (Nt.digs_len h4) (by omega)
theorem digs_one : Nt.digs 1 = [1] := by
  rw [Nt.digs_pos (by decide)]
  have e : (1 : Nat) / Nt.B = 0 := by decide
  rw [e, Nt.digs_zero]
  rfl
theorem one_t (v : Value) (n : Nat) (w : World) (h : Nv w v (Nt.digs n)) (h1 : n = 1) : Calls Tryz.prog 214 #[v] w fun e w' => e = .returned (.bool true) ∧ w = w' := by
  refine (one_any v _ w h (Nt.digs_canon n).1).mono ?_
  rintro e w' ⟨rfl, hw⟩
  subst h1
  exact ⟨by rw [decide_eq_true digs_one], hw⟩
theorem one_f (v : Value) (n : Nat) (w : World) (h : Nv w v (Nt.digs n)) (h1 : n ≠ 1) : Calls Tryz.prog 214 #[v] w fun e w' => e = .returned (.bool false) ∧ w = w' := by
  refine (one_any v _ w h (Nt.digs_canon n).1).mono ?_
  rintro e w' ⟨rfl, hw⟩
  exact ⟨by rw [decide_eq_false (fun e => h1 (by have := Nt.val_digs n; rw [e] at this; exact this.symm))], hw⟩
/-- What stands in the course of read. -/
def RP (w : World) (sn sd : ByteArray) (W : World) : Prop := Blk W w.heap.size 24 #[.string sn, .string sd] ∧ Blk W (w.heap.size + 1) 53 #[.bool false, .slice none 0 0, .slice none 0 0] ∧ Below w.heap.size w W
theorem RP.step {w : World} {sn sd : ByteArray} {W W' : World} (h : RP w sn sd W) (hb : Below W.heap.size W W') : RP w sn sd W' := ⟨h.1.later hb, h.2.1.later hb, h.2.2.trans (hb.mono h.2.2.size)⟩
theorem RP.alloc {w : World} {sn sd : ByteArray} {W : World} (h : RP w sn sd W) (o : Obj) : RP w sn sd (W.alloc o) := h.step ((Below.refl _ W).alloc (Nat.le_refl _) _)
theorem RP.lt {w : World} {sn sd : ByteArray} {W : World} (h : RP w sn sd W) : w.heap.size + 1 < W.heap.size := h.2.1.lt
theorem RP.three {w : World} {sn sd : ByteArray} {W : World} (h : RP w sn sd W) {z : Nat} (hz : w.heap.size + 1 < z) (y0 y1 y2 : Value) : RP w sn sd (((W.setCell ⟨z, 0, none⟩ y0).setCell ⟨z, 1, none⟩ y1).setCell ⟨z, 2, none⟩ y2) :=
  ⟨h.1.three_far (by omega) _ _ _, h.2.1.three_far (by omega) _ _ _, below_three h.2.2 (by omega) _ _ _⟩
theorem RP.c1 {w : World} {sn sd : ByteArray} {W : World} (h : RP w sn sd W) : W.cell? ⟨w.heap.size, 1, none⟩ = some (.string sd) := h.1.cell 1
theorem RP.drew {w : World} {sn sd : ByteArray} {W : World} (h : RP w sn sd W) : RP w sn sd W.drew := ⟨h.1.drew, h.2.1.drew, Below.drew h.2.2⟩
def zeroN : Value := .agg #[.bool false, .slice none 0 0, .slice none 0 0]
/-- What read hands back. -/
def ReadRet (num den : List UInt8) (w : World) (e : Ending) (w' : World) : Prop := Below w.heap.size w w' ∧ ∃ x c, e = .returned (.tuple #[x, .int .i64 c]) ∧
  ((c = 0 ∧ ∃ m n d, Nt.Rd num den m n d ∧ Nm w' x m n d) ∨ (c ≠ 0 ∧ x = zeroN ∧ ¬ ∃ m n d, Nt.Rd num den m n d))

set_option maxRecDepth 100000 in
set_option maxHeartbeats 4000000 in
theorem read_any (sn sd : ByteArray) (w : World) (h1 : sn.size ≤ 9223372036854775807) (h2 : sd.size ≤ 9223372036854775807) :
    Calls Tryz.prog 160 #[.agg #[.string sn, .string sd]] w (ReadRet sn.data.toList sd.data.toList w) := by
  obtain ⟨m, hm⟩ : ∃ m, m = Lib.hasPrefix sn.data.toList [45] := ⟨_, rfl⟩
  obtain ⟨p, hp⟩ : ∃ p : ByteArray, p = ⟨(Lib.trimPrefix sn.data.toList [45]).toArray⟩ := ⟨_, rfl⟩
  have hcut := fun W => Tryz.strings_CutPrefix sn ⟨#[45]⟩ W
  have hpl : Lib.trimPrefix sn.data.toList [45] = p.data.toList := by rw [hp]
  have hps : p.size ≤ sn.size := by
    have e1 : p.size = (Lib.trimPrefix sn.data.toList [45]).length := by rw [hpl]; rfl
    have e2 : sn.size = sn.data.toList.length := rfl
    rw [e1, e2]
    unfold Lib.trimPrefix
    split
    · simp
    · exact Nat.le_refl _
  rw [show (⟨#[45]⟩ : ByteArray).data.toList = [45] from rfl, ← hm, ← hp] at hcut
  have HCUT := Lib.hid hcut
  have HM := Lib.hid hm
  have HP := Lib.hid hpl
  clear hcut hm hpl hp
  by_cases D1 : Nt.Dn p.data.toList
  case neg =>
    have HD1 := Lib.hid fun W => digits_f p W (by omega) D1
    have HW := Lib.hid D1
    clear D1
    go_enter Tryz.func160, Tryz.ntmps160
    go_wp2_with (first | (go_at_call 19; refine (HCUT.out _).mono ?_; rintro e w1 ⟨rfl, rfl⟩) | (go_at_call 213; ((with_reducible refine (HD1.out _).mono ?_); rintro e w2 ⟨rfl, hB1⟩; have hX1 := ((Blk.new w 24 #[.string sn, .string sd]).alloc (.cells #[.bool false, .slice none 0 0, .slice none 0 0] 53)).later hB1; have HX1 := Lib.hid hX1; have hR1 := (Blk.new (w.alloc (.cells #[.string sn, .string sd] 24)) 53 #[.bool false, .slice none 0 0, .slice none 0 0]).later hB1; rw [World.size_alloc] at hR1; have HR1 := Lib.hid hR1; have hBe1 := (((Below.refl _ w).alloc (Nat.le_refl _) (.cells #[.string sn, .string sd] 24)).alloc (by simp) (.cells #[.bool false, .slice none 0 0, .slice none 0 0] 53)).trans (hB1.mono (by simp; omega)); have HBe1 := Lib.hid hBe1; clear hR1 hB1 hX1 hBe1; obtain ⟨x0, x1, -, -⟩ := HX1.out.two; obtain ⟨r0, r1, r2, f0, f1, f2⟩ := HR1.out.three; obtain ⟨-, n0, n1, n2⟩ := HR1.out.three_set (.bool false) (.slice none 0 0) (.slice none 0 0))))
    refine bodyPost_ret (v := .tuple #[zeroN, .int .i64 4]) (by simp [results, Tryz.results160, go_sem, n0, n1, n2, zeroN]) rfl ?_
    exact ⟨below_three HBe1.out (by omega) _ _ _, _, _, rfl, .inr ⟨by decide, rfl, fun h => HW.out (by rw [← HP.out]; exact (Nt.ok_iff.1 h).p)⟩⟩
  have HD1 := Lib.hid fun W => digits_t p W (by omega) D1
  by_cases D2 : Nt.Dn sd.data.toList
  case neg =>
    have HD2 := Lib.hid fun W => digits_f sd W h2 D2
    have HW := Lib.hid D2
    clear D1 D2
    go_enter Tryz.func160, Tryz.ntmps160
    go_wp2_with (first | (go_at_call 19; refine (HCUT.out _).mono ?_; rintro e w1 ⟨rfl, rfl⟩) | (go_at_call 213; first | ((with_reducible refine (HD1.out _).mono ?_); rintro e w2 ⟨rfl, hB1⟩; have hX1 := ((Blk.new w 24 #[.string sn, .string sd]).alloc (.cells #[.bool false, .slice none 0 0, .slice none 0 0] 53)).later hB1; have HX1 := Lib.hid hX1; have hR1 := (Blk.new (w.alloc (.cells #[.string sn, .string sd] 24)) 53 #[.bool false, .slice none 0 0, .slice none 0 0]).later hB1; rw [World.size_alloc] at hR1; have HR1 := Lib.hid hR1; have hBe1 := (((Below.refl _ w).alloc (Nat.le_refl _) (.cells #[.string sn, .string sd] 24)).alloc (by simp) (.cells #[.bool false, .slice none 0 0, .slice none 0 0] 53)).trans (hB1.mono (by simp; omega)); have HBe1 := Lib.hid hBe1; clear hR1 hB1 hX1 hBe1; obtain ⟨x0, x1, -, -⟩ := HX1.out.two; obtain ⟨r0, r1, r2, f0, f1, f2⟩ := HR1.out.three; obtain ⟨-, n0, n1, n2⟩ := HR1.out.three_set (.bool false) (.slice none 0 0) (.slice none 0 0)) | ((with_reducible refine (HD2.out _).mono ?_); rintro e w3 ⟨rfl, hB2⟩; have hX2 := HX1.out.later hB2; have hR2 := HR1.out.later hB2; have hBe2 := HBe1.out.trans (hB2.mono HBe1.out.size); have HX2 := Lib.hid hX2; have HR2 := Lib.hid hR2; have HBe2 := Lib.hid hBe2; clear hB2 hX2 hR2 hBe2 x0 x1 r0 r1 r2 f0 f1 f2 n0 n1 n2; obtain ⟨x0, x1, -, -⟩ := HX2.out.two; obtain ⟨r0, r1, r2, f0, f1, f2⟩ := HR2.out.three; obtain ⟨-, n0, n1, n2⟩ := HR2.out.three_set (.bool false) (.slice none 0 0) (.slice none 0 0))))
    refine bodyPost_ret (v := .tuple #[zeroN, .int .i64 4]) (by simp [results, Tryz.results160, go_sem, n0, n1, n2, zeroN]) rfl ?_
    exact ⟨below_three HBe2.out (by omega) _ _ _, _, _, rfl, .inr ⟨by decide, rfl, fun h => HW.out (Nt.ok_iff.1 h).d⟩⟩
  have HD2 := Lib.hid fun W => digits_t sd W h2 D2
  have HDn1 := Lib.hid D1
  have HDn2 := Lib.hid D2
  clear D1 D2
  cases hz : (sd.toList == [48])
  case true =>
    have HZ := Lib.hid (show sd.data.toList = [48] by rw [Lib.toList_data] at hz; simpa using hz)
    go_enter Tryz.func160, Tryz.ntmps160
    go_wp2_with (first | (go_at_call 19; refine (HCUT.out _).mono ?_; rintro e w1 ⟨rfl, rfl⟩) | (go_at_call 213; first | ((with_reducible refine (HD1.out _).mono ?_); rintro e w2 ⟨rfl, hB1⟩; have hX1 := ((Blk.new w 24 #[.string sn, .string sd]).alloc (.cells #[.bool false, .slice none 0 0, .slice none 0 0] 53)).later hB1; have HX1 := Lib.hid hX1; have hR1 := (Blk.new (w.alloc (.cells #[.string sn, .string sd] 24)) 53 #[.bool false, .slice none 0 0, .slice none 0 0]).later hB1; rw [World.size_alloc] at hR1; have HR1 := Lib.hid hR1; have hBe1 := (((Below.refl _ w).alloc (Nat.le_refl _) (.cells #[.string sn, .string sd] 24)).alloc (by simp) (.cells #[.bool false, .slice none 0 0, .slice none 0 0] 53)).trans (hB1.mono (by simp; omega)); have HBe1 := Lib.hid hBe1; clear hR1 hB1 hX1 hBe1; obtain ⟨x0, x1, -, -⟩ := HX1.out.two; obtain ⟨r0, r1, r2, f0, f1, f2⟩ := HR1.out.three; obtain ⟨-, n0, n1, n2⟩ := HR1.out.three_set (.bool false) (.slice none 0 0) (.slice none 0 0)) | ((with_reducible refine (HD2.out _).mono ?_); rintro e w3 ⟨rfl, hB2⟩; have hX2 := HX1.out.later hB2; have hR2 := HR1.out.later hB2; have hBe2 := HBe1.out.trans (hB2.mono HBe1.out.size); have HX2 := Lib.hid hX2; have HR2 := Lib.hid hR2; have HBe2 := Lib.hid hBe2; clear hB2 hX2 hR2 hBe2 x0 x1 r0 r1 r2 f0 f1 f2 n0 n1 n2; obtain ⟨x0, x1, -, -⟩ := HX2.out.two; obtain ⟨r0, r1, r2, f0, f1, f2⟩ := HR2.out.three; obtain ⟨-, n0, n1, n2⟩ := HR2.out.three_set (.bool false) (.slice none 0 0) (.slice none 0 0))))
    refine bodyPost_ret (v := .tuple #[zeroN, .int .i64 4]) (by simp [results, Tryz.results160, go_sem, n0, n1, n2, zeroN]) rfl ?_
    exact ⟨below_three HBe2.out (by omega) _ _ _, _, _, rfl, .inr ⟨by decide, rfl, fun h => (Nt.ok_iff.1 h).d0 HZ.out⟩⟩
  cases hzp : (p.toList == [48])
  case true =>
    cases m
    case true =>
      have HZ := Lib.hid (show p.data.toList = [48] by rw [Lib.toList_data] at hzp; simpa using hzp)
      go_enter Tryz.func160, Tryz.ntmps160
      go_wp2_with (first | (go_at_call 19; refine (HCUT.out _).mono ?_; rintro e w1 ⟨rfl, rfl⟩) | (go_at_call 213; first | ((with_reducible refine (HD1.out _).mono ?_); rintro e w2 ⟨rfl, hB1⟩; have hX1 := ((Blk.new w 24 #[.string sn, .string sd]).alloc (.cells #[.bool false, .slice none 0 0, .slice none 0 0] 53)).later hB1; have HX1 := Lib.hid hX1; have hR1 := (Blk.new (w.alloc (.cells #[.string sn, .string sd] 24)) 53 #[.bool false, .slice none 0 0, .slice none 0 0]).later hB1; rw [World.size_alloc] at hR1; have HR1 := Lib.hid hR1; have hBe1 := (((Below.refl _ w).alloc (Nat.le_refl _) (.cells #[.string sn, .string sd] 24)).alloc (by simp) (.cells #[.bool false, .slice none 0 0, .slice none 0 0] 53)).trans (hB1.mono (by simp; omega)); have HBe1 := Lib.hid hBe1; clear hR1 hB1 hX1 hBe1; obtain ⟨x0, x1, -, -⟩ := HX1.out.two; obtain ⟨r0, r1, r2, f0, f1, f2⟩ := HR1.out.three; obtain ⟨-, n0, n1, n2⟩ := HR1.out.three_set (.bool false) (.slice none 0 0) (.slice none 0 0)) | ((with_reducible refine (HD2.out _).mono ?_); rintro e w3 ⟨rfl, hB2⟩; have hX2 := HX1.out.later hB2; have hR2 := HR1.out.later hB2; have hBe2 := HBe1.out.trans (hB2.mono HBe1.out.size); have HX2 := Lib.hid hX2; have HR2 := Lib.hid hR2; have HBe2 := Lib.hid hBe2; clear hB2 hX2 hR2 hBe2 x0 x1 r0 r1 r2 f0 f1 f2 n0 n1 n2; obtain ⟨x0, x1, -, -⟩ := HX2.out.two; obtain ⟨r0, r1, r2, f0, f1, f2⟩ := HR2.out.three; obtain ⟨-, n0, n1, n2⟩ := HR2.out.three_set (.bool false) (.slice none 0 0) (.slice none 0 0))))
      refine bodyPost_ret (v := .tuple #[zeroN, .int .i64 4]) (by simp [results, Tryz.results160, go_sem, n0, n1, n2, zeroN]) rfl ?_
      exact ⟨below_three HBe2.out (by omega) _ _ _, _, _, rfl, .inr ⟨by decide, rfl, fun h => absurd ((Nt.ok_iff.1 h).n0 (HP.out.trans HZ.out)) (by rw [← HM.out]; decide)⟩⟩
    case false =>
      by_cases hs1 : (300 : Int) < p.size
      case pos =>
        have HZ := Lib.hid hs1
        go_enter Tryz.func160, Tryz.ntmps160
        go_wp2_with (first | (go_at_call 19; refine (HCUT.out _).mono ?_; rintro e w1 ⟨rfl, rfl⟩) | (go_at_call 213; first | ((with_reducible refine (HD1.out _).mono ?_); rintro e w2 ⟨rfl, hB1⟩; have hX1 := ((Blk.new w 24 #[.string sn, .string sd]).alloc (.cells #[.bool false, .slice none 0 0, .slice none 0 0] 53)).later hB1; have HX1 := Lib.hid hX1; have hR1 := (Blk.new (w.alloc (.cells #[.string sn, .string sd] 24)) 53 #[.bool false, .slice none 0 0, .slice none 0 0]).later hB1; rw [World.size_alloc] at hR1; have HR1 := Lib.hid hR1; have hBe1 := (((Below.refl _ w).alloc (Nat.le_refl _) (.cells #[.string sn, .string sd] 24)).alloc (by simp) (.cells #[.bool false, .slice none 0 0, .slice none 0 0] 53)).trans (hB1.mono (by simp; omega)); have HBe1 := Lib.hid hBe1; clear hR1 hB1 hX1 hBe1; obtain ⟨x0, x1, -, -⟩ := HX1.out.two; obtain ⟨r0, r1, r2, f0, f1, f2⟩ := HR1.out.three; obtain ⟨-, n0, n1, n2⟩ := HR1.out.three_set (.bool false) (.slice none 0 0) (.slice none 0 0)) | ((with_reducible refine (HD2.out _).mono ?_); rintro e w3 ⟨rfl, hB2⟩; have hX2 := HX1.out.later hB2; have hR2 := HR1.out.later hB2; have hBe2 := HBe1.out.trans (hB2.mono HBe1.out.size); have HX2 := Lib.hid hX2; have HR2 := Lib.hid hR2; have HBe2 := Lib.hid hBe2; clear hB2 hX2 hR2 hBe2 x0 x1 r0 r1 r2 f0 f1 f2 n0 n1 n2; obtain ⟨x0, x1, -, -⟩ := HX2.out.two; obtain ⟨r0, r1, r2, f0, f1, f2⟩ := HR2.out.three; obtain ⟨-, n0, n1, n2⟩ := HR2.out.three_set (.bool false) (.slice none 0 0) (.slice none 0 0))))
        refine bodyPost_ret (v := .tuple #[zeroN, .int .i64 3]) (by simp [results, Tryz.results160, go_sem, n0, n1, n2, zeroN]) rfl ?_
        exact ⟨below_three HBe2.out (by omega) _ _ _, _, _, rfl, .inr ⟨by decide, rfl, fun h => absurd (Nt.ok_iff.1 h).ln (by rw [HP.out]; have e : p.data.toList.length = p.size := rfl; have := HZ.out; omega)⟩⟩
      by_cases hs2 : (300 : Int) < sd.size
      case pos =>
        have HZ := Lib.hid hs2
        go_enter Tryz.func160, Tryz.ntmps160
        go_wp2_with (first | (go_at_call 19; refine (HCUT.out _).mono ?_; rintro e w1 ⟨rfl, rfl⟩) | (go_at_call 213; first | ((with_reducible refine (HD1.out _).mono ?_); rintro e w2 ⟨rfl, hB1⟩; have hX1 := ((Blk.new w 24 #[.string sn, .string sd]).alloc (.cells #[.bool false, .slice none 0 0, .slice none 0 0] 53)).later hB1; have HX1 := Lib.hid hX1; have hR1 := (Blk.new (w.alloc (.cells #[.string sn, .string sd] 24)) 53 #[.bool false, .slice none 0 0, .slice none 0 0]).later hB1; rw [World.size_alloc] at hR1; have HR1 := Lib.hid hR1; have hBe1 := (((Below.refl _ w).alloc (Nat.le_refl _) (.cells #[.string sn, .string sd] 24)).alloc (by simp) (.cells #[.bool false, .slice none 0 0, .slice none 0 0] 53)).trans (hB1.mono (by simp; omega)); have HBe1 := Lib.hid hBe1; clear hR1 hB1 hX1 hBe1; obtain ⟨x0, x1, -, -⟩ := HX1.out.two; obtain ⟨r0, r1, r2, f0, f1, f2⟩ := HR1.out.three; obtain ⟨-, n0, n1, n2⟩ := HR1.out.three_set (.bool false) (.slice none 0 0) (.slice none 0 0)) | ((with_reducible refine (HD2.out _).mono ?_); rintro e w3 ⟨rfl, hB2⟩; have hX2 := HX1.out.later hB2; have hR2 := HR1.out.later hB2; have hBe2 := HBe1.out.trans (hB2.mono HBe1.out.size); have HX2 := Lib.hid hX2; have HR2 := Lib.hid hR2; have HBe2 := Lib.hid hBe2; clear hB2 hX2 hR2 hBe2 x0 x1 r0 r1 r2 f0 f1 f2 n0 n1 n2; obtain ⟨x0, x1, -, -⟩ := HX2.out.two; obtain ⟨r0, r1, r2, f0, f1, f2⟩ := HR2.out.three; obtain ⟨-, n0, n1, n2⟩ := HR2.out.three_set (.bool false) (.slice none 0 0) (.slice none 0 0))))
        refine bodyPost_ret (v := .tuple #[zeroN, .int .i64 3]) (by simp [results, Tryz.results160, go_sem, n0, n1, n2, zeroN]) rfl ?_
        exact ⟨below_three HBe2.out (by omega) _ _ _, _, _, rfl, .inr ⟨by decide, rfl, fun h => absurd (Nt.ok_iff.1 h).ld (by have e : sd.data.toList.length = sd.size := rfl; have := HZ.out; omega)⟩⟩
      have HPA1 := Lib.hid fun W => parse_t p W HDn1.out (by omega)
      have HPA2 := Lib.hid fun W => parse_t sd W HDn2.out (by omega)
      go_enter Tryz.func160, Tryz.ntmps160
      go_upto_region 6 with (first | (go_at_call 19; refine (HCUT.out _).mono ?_; rintro e w1 ⟨rfl, rfl⟩) | (go_at_call 213; first | ((with_reducible refine (HD1.out _).mono ?_); rintro e w2 ⟨rfl, hB1⟩; have hX1 := ((Blk.new w 24 #[.string sn, .string sd]).alloc (.cells #[.bool false, .slice none 0 0, .slice none 0 0] 53)).later hB1; have HX1 := Lib.hid hX1; have hR1 := (Blk.new (w.alloc (.cells #[.string sn, .string sd] 24)) 53 #[.bool false, .slice none 0 0, .slice none 0 0]).later hB1; rw [World.size_alloc] at hR1; have HR1 := Lib.hid hR1; have hBe1 := (((Below.refl _ w).alloc (Nat.le_refl _) (.cells #[.string sn, .string sd] 24)).alloc (by simp) (.cells #[.bool false, .slice none 0 0, .slice none 0 0] 53)).trans (hB1.mono (by simp; omega)); have HBe1 := Lib.hid hBe1; clear hR1 hB1 hX1 hBe1; obtain ⟨x0, x1, -, -⟩ := HX1.out.two; obtain ⟨r0, r1, r2, f0, f1, f2⟩ := HR1.out.three; obtain ⟨-, n0, n1, n2⟩ := HR1.out.three_set (.bool false) (.slice none 0 0) (.slice none 0 0)) | ((with_reducible refine (HD2.out _).mono ?_); rintro e w3 ⟨rfl, hB2⟩; have hX2 := HX1.out.later hB2; have hR2 := HR1.out.later hB2; have hBe2 := HBe1.out.trans (hB2.mono HBe1.out.size); have HX2 := Lib.hid hX2; have HR2 := Lib.hid hR2; have HBe2 := Lib.hid hBe2; clear hB2 hX2 hR2 hBe2 x0 x1 r0 r1 r2 f0 f1 f2 n0 n1 n2; obtain ⟨x0, x1, -, -⟩ := HX2.out.two; obtain ⟨r0, r1, r2, f0, f1, f2⟩ := HR2.out.three; obtain ⟨-, n0, n1, n2⟩ := HR2.out.three_set (.bool false) (.slice none 0 0) (.slice none 0 0))))
      go_cut [6] (fun v wx => ∃ z A1 c1 A2 c2, v = .pointer (some ⟨z, 0, none⟩) ∧ Blk wx z 53 #[.bool false, .slice A1 (Nt.digs (Nt.dval p.data.toList)).length c1, .slice A2 (Nt.digs (Nt.dval sd.data.toList)).length c2] ∧ Nv wx (.slice A1 (Nt.digs (Nt.dval p.data.toList)).length c1) (Nt.digs (Nt.dval p.data.toList)) ∧ Nv wx (.slice A2 (Nt.digs (Nt.dval sd.data.toList)).length c2) (Nt.digs (Nt.dval sd.data.toList)) ∧ Blk wx (w.heap.size + 1) 53 #[.bool false, .slice none 0 0, .slice none 0 0] ∧ Below w.heap.size w wx ∧ w.heap.size + 1 < z)
      case first =>
        have hP3 : RP w sn sd w3 := ⟨HX2.out, HR2.out, HBe2.out⟩
        have hz3 : Blk (w3.alloc (.cells #[.bool false, .slice none 0 0, .slice none 0 0] 53)).drew w3.heap.size 53 #[.bool false, .slice none 0 0, .slice none 0 0] := (Blk.new w3 53 #[.bool false, .slice none 0 0, .slice none 0 0]).drew
        have HZ3 := Lib.hid hz3
        clear hz3
        have HP3 := Lib.hid hP3
        have l3 : w.heap.size + 1 < w3.heap.size := hP3.lt
        clear hP3 r0 r1 r2 f0 f1 f2 n0 n1 n2
        go_region_held3 (fun w' => w'.cell? ⟨w.heap.size, 1, none⟩ = some (.string sd)) (first | assumption | (with_reducible exact x1) | (with_reducible exact (HP5.out.alloc _).c1) | (with_reducible exact (HP4.out.alloc _).c1) | (with_reducible exact (HP3.out.alloc _).c1) | (with_reducible exact (HP3.out.alloc _).drew.c1) | (with_reducible exact HP3.out.drew.c1) | (with_reducible exact ((HP5.out.alloc _).three l5 _ _ _).c1) | (with_reducible exact (HP5.out.three l4 _ _ _).c1) | (with_reducible exact (HP5.out.three l3 _ _ _).c1)) (first | (go_at_call 21; (with_reducible refine (HPA1.out _).mono ?_); rintro e w4 ⟨A1, c1, rfl, hn1, hb1⟩; (try ((with_reducible have hq := HZ3.out.later hb1); have HZ4 := Lib.hid hq; obtain ⟨z0, z1, z2, g0, g1, g2⟩ := hq.three; clear hq)); have hP4 : RP w sn sd w4 := (by first | (with_reducible exact HP3.out.drew.step hb1) | (with_reducible exact (HP3.out.alloc _).drew.step hb1)); have HP4 := Lib.hid hP4; have l4 := hP4.lt; have y1 := hP4.c1; have HN4 := Lib.hid hn1; clear hP4 hb1 hn1) | (go_at_call 21; (with_reducible refine (HPA2.out _).mono ?_); rintro e w5 ⟨A2, c2, rfl, hn2, hb2⟩; (first | ((with_reducible have hq := (Blk.new w4 53 #[.bool false, .slice none 0 0, .slice none 0 0]).later hb2); have HZ5 := Lib.hid hq; obtain ⟨z0, z1, z2, g0, g1, g2⟩ := hq.three; clear hq) | ((with_reducible have hq := HZ4.out.later hb2); have HZ5 := Lib.hid hq; clear z0 z1 z2 g0 g1 g2; obtain ⟨z0, z1, z2, g0, g1, g2⟩ := hq.three; clear hq) | skip); have hP5 : RP w sn sd w5 := (by first | (with_reducible exact HP4.out.step hb2) | (with_reducible exact (HP4.out.alloc _).step hb2)); have HP5 := Lib.hid hP5; have l5 := hP5.lt; have y2 := hP5.c1; have hN5 := (by first | (with_reducible exact HN4.out.below hb2) | (with_reducible exact (HN4.out.below ((Below.refl _ w4).alloc (Nat.le_refl _) _)).below hb2) : Nv w5 (.slice A1 (Nt.digs (Nt.dval p.data.toList)).length c1) (Nt.digs (Nt.dval p.data.toList))); have HN5 := Lib.hid hN5; have HM5 := Lib.hid hn2; clear hP5 hb2 hn2 hN5))
        · go_wp2_with fail
          go_meet
          exact ⟨_, A1, c1, A2, c2, rfl, Blk.new w5 _ _, HN5.out.below ((Below.refl _ w5).alloc (Nat.le_refl _) _), HM5.out.below ((Below.refl _ w5).alloc (Nat.le_refl _) _), (HP5.out.alloc _).2.1, (HP5.out.alloc _).2.2, l5⟩
        · go_wp2_with fail
          go_meet
          exact ⟨_, A1, c1, A2, c2, rfl, (HZ5.out.three_set _ _ _).1, HN5.out.apart HZ5.out _ _ _, HM5.out.apart HZ5.out _ _ _, (HP5.out.three l4 _ _ _).2.1, (HP5.out.three l4 _ _ _).2.2, l4⟩
        · go_wp2_with fail
          go_meet
          exact ⟨_, A1, c1, A2, c2, rfl, (HZ5.out.three_set _ _ _).1, HN5.out.apart HZ5.out _ _ _, HM5.out.apart HZ5.out _ _ _, (HP5.out.three l3 _ _ _).2.1, (HP5.out.three l3 _ _ _).2.2, l3⟩
      case rest =>
        obtain ⟨z, A1, c1, A2, c2, rfl, hz, hn, hd, hr, hb, hlt⟩ := hcut
        clear HPA1 HPA2 HD1 HD2 HCUT
        have HL1 := Lib.hid (digs_300 HDn1.out (by have e : p.data.toList.length = p.size := rfl; omega))
        have HL2 := Lib.hid (digs_300 HDn2.out (by have e : sd.data.toList.length = sd.size := rfl; omega))
        by_cases hg : Nat.gcd (Nt.dval p.data.toList) (Nt.dval sd.data.toList) = 1
        case pos =>
          have HG := Lib.hid hg
          obtain ⟨a0, a1, a2, -, -, -⟩ := hz.three
          have HN := Lib.hid hn
          have HDD := Lib.hid hd
          have HR := Lib.hid hr
          have HB := Lib.hid hb
          have HZb := Lib.hid hz
          clear hz hn hd hr hb hg
          go_wp2_with (first | (go_at_call 68; refine (common_any _ _ _ _ _ HN.out HDD.out HL1.out HL2.out).mono ?_; rintro e w7 ⟨v7, rfl, hn7, hb7⟩; have HN7 := Lib.hid hn7; have hz7 := HZb.out.later hb7; have hr7 := HR.out.later hb7; have hB7 := HB.out.trans (hb7.mono HB.out.size); have HB7 := Lib.hid hB7; have HR7 := Lib.hid hr7; have HNa := Lib.hid (HN.out.below hb7); have HNb := Lib.hid (HDD.out.below hb7); clear a0 a1 a2 hb7 hn7 hB7; obtain ⟨a0, a1, a2, -, -, -⟩ := hz7.three; obtain ⟨r0, r1, r2, f0, f1, f2⟩ := hr7.three; clear hz7 hr7) | (go_at_call 214; refine (one_t _ _ _ HN7.out HG.out).mono ?_; rintro e w8 ⟨rfl, rfl⟩))
          obtain ⟨-, n0, n1, n2⟩ := HR7.out.three_set (.bool false) (.slice A1 (Nt.digs (Nt.dval p.data.toList)).length c1) (.slice A2 (Nt.digs (Nt.dval sd.data.toList)).length c2)
          refine bodyPost_ret (v := .tuple #[.agg #[.bool false, (.slice A1 (Nt.digs (Nt.dval p.data.toList)).length c1), (.slice A2 (Nt.digs (Nt.dval sd.data.toList)).length c2)], .int .i64 0]) (by simp [results, Tryz.results160, go_sem, n0, n1, n2]) rfl ?_
          refine ⟨below_three HB7.out (by omega) _ _ _, _, _, rfl, .inl ⟨rfl, _, _, _, Nt.read_rd HP.out HM.out HDn1.out HDn2.out ?_ ?_ ?_ ?_ HG.out, ⟨_, _, rfl, HNa.out.apart HR7.out _ _ _, HNb.out.apart HR7.out _ _ _⟩⟩⟩
          · rw [Lib.toList_data] at hz; simpa using hz
          · exact fun _ => rfl
          · have e : p.data.toList.length = p.size := rfl
            omega
          · have e : sd.data.toList.length = sd.size := rfl
            omega
        case neg =>
          have HG := Lib.hid hg
          obtain ⟨a0, a1, a2, -, -, -⟩ := hz.three
          have HN := Lib.hid hn
          have HDD := Lib.hid hd
          have HR := Lib.hid hr
          have HB := Lib.hid hb
          have HZb := Lib.hid hz
          clear hz hn hd hr hb hg
          go_wp2_with (first | (go_at_call 68; refine (common_any _ _ _ _ _ HN.out HDD.out HL1.out HL2.out).mono ?_; rintro e w7 ⟨v7, rfl, hn7, hb7⟩; have HN7 := Lib.hid hn7; have hz7 := HZb.out.later hb7; have hr7 := HR.out.later hb7; have hB7 := HB.out.trans (hb7.mono HB.out.size); have HB7 := Lib.hid hB7; have HR7 := Lib.hid hr7; have HNa := Lib.hid (HN.out.below hb7); have HNb := Lib.hid (HDD.out.below hb7); clear a0 a1 a2 hb7 hn7 hB7; obtain ⟨a0, a1, a2, -, -, -⟩ := hz7.three; obtain ⟨r0, r1, r2, f0, f1, f2⟩ := hr7.three; clear hz7 hr7) | (go_at_call 214; refine (one_f _ _ _ HN7.out HG.out).mono ?_; rintro e w8 ⟨rfl, rfl⟩))
          obtain ⟨-, n0, n1, n2⟩ := HR7.out.three_set (.bool false) (.slice none 0 0) (.slice none 0 0)
          refine bodyPost_ret (v := .tuple #[zeroN, .int .i64 4]) (by simp [results, Tryz.results160, go_sem, n0, n1, n2, zeroN]) rfl ?_
          exact ⟨below_three HB7.out (by omega) _ _ _, _, _, rfl, .inr ⟨by decide, rfl, fun h => HG.out (by have h8 := (Nt.ok_iff.1 h).g; rw [HP.out] at h8; exact h8)⟩⟩
  case false =>
    by_cases hs1 : (300 : Int) < p.size
    case pos =>
      have HZ := Lib.hid hs1
      go_enter Tryz.func160, Tryz.ntmps160
      go_wp2_with (first | (go_at_call 19; refine (HCUT.out _).mono ?_; rintro e w1 ⟨rfl, rfl⟩) | (go_at_call 213; first | ((with_reducible refine (HD1.out _).mono ?_); rintro e w2 ⟨rfl, hB1⟩; have hX1 := ((Blk.new w 24 #[.string sn, .string sd]).alloc (.cells #[.bool false, .slice none 0 0, .slice none 0 0] 53)).later hB1; have HX1 := Lib.hid hX1; have hR1 := (Blk.new (w.alloc (.cells #[.string sn, .string sd] 24)) 53 #[.bool false, .slice none 0 0, .slice none 0 0]).later hB1; rw [World.size_alloc] at hR1; have HR1 := Lib.hid hR1; have hBe1 := (((Below.refl _ w).alloc (Nat.le_refl _) (.cells #[.string sn, .string sd] 24)).alloc (by simp) (.cells #[.bool false, .slice none 0 0, .slice none 0 0] 53)).trans (hB1.mono (by simp; omega)); have HBe1 := Lib.hid hBe1; clear hR1 hB1 hX1 hBe1; obtain ⟨x0, x1, -, -⟩ := HX1.out.two; obtain ⟨r0, r1, r2, f0, f1, f2⟩ := HR1.out.three; obtain ⟨-, n0, n1, n2⟩ := HR1.out.three_set (.bool false) (.slice none 0 0) (.slice none 0 0)) | ((with_reducible refine (HD2.out _).mono ?_); rintro e w3 ⟨rfl, hB2⟩; have hX2 := HX1.out.later hB2; have hR2 := HR1.out.later hB2; have hBe2 := HBe1.out.trans (hB2.mono HBe1.out.size); have HX2 := Lib.hid hX2; have HR2 := Lib.hid hR2; have HBe2 := Lib.hid hBe2; clear hB2 hX2 hR2 hBe2 x0 x1 r0 r1 r2 f0 f1 f2 n0 n1 n2; obtain ⟨x0, x1, -, -⟩ := HX2.out.two; obtain ⟨r0, r1, r2, f0, f1, f2⟩ := HR2.out.three; obtain ⟨-, n0, n1, n2⟩ := HR2.out.three_set (.bool false) (.slice none 0 0) (.slice none 0 0))))
      refine bodyPost_ret (v := .tuple #[zeroN, .int .i64 3]) (by simp [results, Tryz.results160, go_sem, n0, n1, n2, zeroN]) rfl ?_
      exact ⟨below_three HBe2.out (by omega) _ _ _, _, _, rfl, .inr ⟨by decide, rfl, fun h => absurd (Nt.ok_iff.1 h).ln (by rw [HP.out]; have e : p.data.toList.length = p.size := rfl; have := HZ.out; omega)⟩⟩
    by_cases hs2 : (300 : Int) < sd.size
    case pos =>
      have HZ := Lib.hid hs2
      go_enter Tryz.func160, Tryz.ntmps160
      go_wp2_with (first | (go_at_call 19; refine (HCUT.out _).mono ?_; rintro e w1 ⟨rfl, rfl⟩) | (go_at_call 213; first | ((with_reducible refine (HD1.out _).mono ?_); rintro e w2 ⟨rfl, hB1⟩; have hX1 := ((Blk.new w 24 #[.string sn, .string sd]).alloc (.cells #[.bool false, .slice none 0 0, .slice none 0 0] 53)).later hB1; have HX1 := Lib.hid hX1; have hR1 := (Blk.new (w.alloc (.cells #[.string sn, .string sd] 24)) 53 #[.bool false, .slice none 0 0, .slice none 0 0]).later hB1; rw [World.size_alloc] at hR1; have HR1 := Lib.hid hR1; have hBe1 := (((Below.refl _ w).alloc (Nat.le_refl _) (.cells #[.string sn, .string sd] 24)).alloc (by simp) (.cells #[.bool false, .slice none 0 0, .slice none 0 0] 53)).trans (hB1.mono (by simp; omega)); have HBe1 := Lib.hid hBe1; clear hR1 hB1 hX1 hBe1; obtain ⟨x0, x1, -, -⟩ := HX1.out.two; obtain ⟨r0, r1, r2, f0, f1, f2⟩ := HR1.out.three; obtain ⟨-, n0, n1, n2⟩ := HR1.out.three_set (.bool false) (.slice none 0 0) (.slice none 0 0)) | ((with_reducible refine (HD2.out _).mono ?_); rintro e w3 ⟨rfl, hB2⟩; have hX2 := HX1.out.later hB2; have hR2 := HR1.out.later hB2; have hBe2 := HBe1.out.trans (hB2.mono HBe1.out.size); have HX2 := Lib.hid hX2; have HR2 := Lib.hid hR2; have HBe2 := Lib.hid hBe2; clear hB2 hX2 hR2 hBe2 x0 x1 r0 r1 r2 f0 f1 f2 n0 n1 n2; obtain ⟨x0, x1, -, -⟩ := HX2.out.two; obtain ⟨r0, r1, r2, f0, f1, f2⟩ := HR2.out.three; obtain ⟨-, n0, n1, n2⟩ := HR2.out.three_set (.bool false) (.slice none 0 0) (.slice none 0 0))))
      refine bodyPost_ret (v := .tuple #[zeroN, .int .i64 3]) (by simp [results, Tryz.results160, go_sem, n0, n1, n2, zeroN]) rfl ?_
      exact ⟨below_three HBe2.out (by omega) _ _ _, _, _, rfl, .inr ⟨by decide, rfl, fun h => absurd (Nt.ok_iff.1 h).ld (by have e : sd.data.toList.length = sd.size := rfl; have := HZ.out; omega)⟩⟩
    have HPA1 := Lib.hid fun W => parse_t p W HDn1.out (by omega)
    have HPA2 := Lib.hid fun W => parse_t sd W HDn2.out (by omega)
    go_enter Tryz.func160, Tryz.ntmps160
    go_upto_region 6 with (first | (go_at_call 19; refine (HCUT.out _).mono ?_; rintro e w1 ⟨rfl, rfl⟩) | (go_at_call 213; first | ((with_reducible refine (HD1.out _).mono ?_); rintro e w2 ⟨rfl, hB1⟩; have hX1 := ((Blk.new w 24 #[.string sn, .string sd]).alloc (.cells #[.bool false, .slice none 0 0, .slice none 0 0] 53)).later hB1; have HX1 := Lib.hid hX1; have hR1 := (Blk.new (w.alloc (.cells #[.string sn, .string sd] 24)) 53 #[.bool false, .slice none 0 0, .slice none 0 0]).later hB1; rw [World.size_alloc] at hR1; have HR1 := Lib.hid hR1; have hBe1 := (((Below.refl _ w).alloc (Nat.le_refl _) (.cells #[.string sn, .string sd] 24)).alloc (by simp) (.cells #[.bool false, .slice none 0 0, .slice none 0 0] 53)).trans (hB1.mono (by simp; omega)); have HBe1 := Lib.hid hBe1; clear hR1 hB1 hX1 hBe1; obtain ⟨x0, x1, -, -⟩ := HX1.out.two; obtain ⟨r0, r1, r2, f0, f1, f2⟩ := HR1.out.three; obtain ⟨-, n0, n1, n2⟩ := HR1.out.three_set (.bool false) (.slice none 0 0) (.slice none 0 0)) | ((with_reducible refine (HD2.out _).mono ?_); rintro e w3 ⟨rfl, hB2⟩; have hX2 := HX1.out.later hB2; have hR2 := HR1.out.later hB2; have hBe2 := HBe1.out.trans (hB2.mono HBe1.out.size); have HX2 := Lib.hid hX2; have HR2 := Lib.hid hR2; have HBe2 := Lib.hid hBe2; clear hB2 hX2 hR2 hBe2 x0 x1 r0 r1 r2 f0 f1 f2 n0 n1 n2; obtain ⟨x0, x1, -, -⟩ := HX2.out.two; obtain ⟨r0, r1, r2, f0, f1, f2⟩ := HR2.out.three; obtain ⟨-, n0, n1, n2⟩ := HR2.out.three_set (.bool false) (.slice none 0 0) (.slice none 0 0))))
    go_cut [6] (fun v wx => ∃ z A1 c1 A2 c2, v = .pointer (some ⟨z, 0, none⟩) ∧ Blk wx z 53 #[.bool m, .slice A1 (Nt.digs (Nt.dval p.data.toList)).length c1, .slice A2 (Nt.digs (Nt.dval sd.data.toList)).length c2] ∧ Nv wx (.slice A1 (Nt.digs (Nt.dval p.data.toList)).length c1) (Nt.digs (Nt.dval p.data.toList)) ∧ Nv wx (.slice A2 (Nt.digs (Nt.dval sd.data.toList)).length c2) (Nt.digs (Nt.dval sd.data.toList)) ∧ Blk wx (w.heap.size + 1) 53 #[.bool false, .slice none 0 0, .slice none 0 0] ∧ Below w.heap.size w wx ∧ w.heap.size + 1 < z)
    case first =>
      have hP3 : RP w sn sd w3 := ⟨HX2.out, HR2.out, HBe2.out⟩
      have hz3 : Blk (w3.alloc (.cells #[.bool false, .slice none 0 0, .slice none 0 0] 53)).drew w3.heap.size 53 #[.bool false, .slice none 0 0, .slice none 0 0] := (Blk.new w3 53 #[.bool false, .slice none 0 0, .slice none 0 0]).drew
      have HZ3 := Lib.hid hz3
      clear hz3
      have HP3 := Lib.hid hP3
      have l3 : w.heap.size + 1 < w3.heap.size := hP3.lt
      clear hP3 r0 r1 r2 f0 f1 f2 n0 n1 n2
      go_region_held3 (fun w' => w'.cell? ⟨w.heap.size, 1, none⟩ = some (.string sd)) (first | assumption | (with_reducible exact x1) | (with_reducible exact (HP5.out.alloc _).c1) | (with_reducible exact (HP4.out.alloc _).c1) | (with_reducible exact (HP3.out.alloc _).c1) | (with_reducible exact (HP3.out.alloc _).drew.c1) | (with_reducible exact HP3.out.drew.c1) | (with_reducible exact ((HP5.out.alloc _).three l5 _ _ _).c1) | (with_reducible exact (HP5.out.three l4 _ _ _).c1) | (with_reducible exact (HP5.out.three l3 _ _ _).c1)) (first | (go_at_call 21; (with_reducible refine (HPA1.out _).mono ?_); rintro e w4 ⟨A1, c1, rfl, hn1, hb1⟩; (try ((with_reducible have hq := HZ3.out.later hb1); have HZ4 := Lib.hid hq; obtain ⟨z0, z1, z2, g0, g1, g2⟩ := hq.three; clear hq)); have hP4 : RP w sn sd w4 := (by first | (with_reducible exact HP3.out.drew.step hb1) | (with_reducible exact (HP3.out.alloc _).drew.step hb1)); have HP4 := Lib.hid hP4; have l4 := hP4.lt; have y1 := hP4.c1; have HN4 := Lib.hid hn1; clear hP4 hb1 hn1) | (go_at_call 21; (with_reducible refine (HPA2.out _).mono ?_); rintro e w5 ⟨A2, c2, rfl, hn2, hb2⟩; (first | ((with_reducible have hq := (Blk.new w4 53 #[.bool false, .slice none 0 0, .slice none 0 0]).later hb2); have HZ5 := Lib.hid hq; obtain ⟨z0, z1, z2, g0, g1, g2⟩ := hq.three; clear hq) | ((with_reducible have hq := HZ4.out.later hb2); have HZ5 := Lib.hid hq; clear z0 z1 z2 g0 g1 g2; obtain ⟨z0, z1, z2, g0, g1, g2⟩ := hq.three; clear hq) | skip); have hP5 : RP w sn sd w5 := (by first | (with_reducible exact HP4.out.step hb2) | (with_reducible exact (HP4.out.alloc _).step hb2)); have HP5 := Lib.hid hP5; have l5 := hP5.lt; have y2 := hP5.c1; have hN5 := (by first | (with_reducible exact HN4.out.below hb2) | (with_reducible exact (HN4.out.below ((Below.refl _ w4).alloc (Nat.le_refl _) _)).below hb2) : Nv w5 (.slice A1 (Nt.digs (Nt.dval p.data.toList)).length c1) (Nt.digs (Nt.dval p.data.toList))); have HN5 := Lib.hid hN5; have HM5 := Lib.hid hn2; clear hP5 hb2 hn2 hN5))
      · go_wp2_with fail
        go_meet
        exact ⟨_, A1, c1, A2, c2, rfl, Blk.new w5 _ _, HN5.out.below ((Below.refl _ w5).alloc (Nat.le_refl _) _), HM5.out.below ((Below.refl _ w5).alloc (Nat.le_refl _) _), (HP5.out.alloc _).2.1, (HP5.out.alloc _).2.2, l5⟩
      · go_wp2_with fail
        go_meet
        exact ⟨_, A1, c1, A2, c2, rfl, (HZ5.out.three_set _ _ _).1, HN5.out.apart HZ5.out _ _ _, HM5.out.apart HZ5.out _ _ _, (HP5.out.three l4 _ _ _).2.1, (HP5.out.three l4 _ _ _).2.2, l4⟩
      · go_wp2_with fail
        go_meet
        exact ⟨_, A1, c1, A2, c2, rfl, (HZ5.out.three_set _ _ _).1, HN5.out.apart HZ5.out _ _ _, HM5.out.apart HZ5.out _ _ _, (HP5.out.three l3 _ _ _).2.1, (HP5.out.three l3 _ _ _).2.2, l3⟩
    case rest =>
      obtain ⟨z, A1, c1, A2, c2, rfl, hz, hn, hd, hr, hb, hlt⟩ := hcut
      clear HPA1 HPA2 HD1 HD2 HCUT
      have HL1 := Lib.hid (digs_300 HDn1.out (by have e : p.data.toList.length = p.size := rfl; omega))
      have HL2 := Lib.hid (digs_300 HDn2.out (by have e : sd.data.toList.length = sd.size := rfl; omega))
      by_cases hg : Nat.gcd (Nt.dval p.data.toList) (Nt.dval sd.data.toList) = 1
      case pos =>
        have HG := Lib.hid hg
        obtain ⟨a0, a1, a2, -, -, -⟩ := hz.three
        have HN := Lib.hid hn
        have HDD := Lib.hid hd
        have HR := Lib.hid hr
        have HB := Lib.hid hb
        have HZb := Lib.hid hz
        clear hz hn hd hr hb hg
        go_wp2_with (first | (go_at_call 68; refine (common_any _ _ _ _ _ HN.out HDD.out HL1.out HL2.out).mono ?_; rintro e w7 ⟨v7, rfl, hn7, hb7⟩; have HN7 := Lib.hid hn7; have hz7 := HZb.out.later hb7; have hr7 := HR.out.later hb7; have hB7 := HB.out.trans (hb7.mono HB.out.size); have HB7 := Lib.hid hB7; have HR7 := Lib.hid hr7; have HNa := Lib.hid (HN.out.below hb7); have HNb := Lib.hid (HDD.out.below hb7); clear a0 a1 a2 hb7 hn7 hB7; obtain ⟨a0, a1, a2, -, -, -⟩ := hz7.three; obtain ⟨r0, r1, r2, f0, f1, f2⟩ := hr7.three; clear hz7 hr7) | (go_at_call 214; refine (one_t _ _ _ HN7.out HG.out).mono ?_; rintro e w8 ⟨rfl, rfl⟩))
        obtain ⟨-, n0, n1, n2⟩ := HR7.out.three_set (.bool m) (.slice A1 (Nt.digs (Nt.dval p.data.toList)).length c1) (.slice A2 (Nt.digs (Nt.dval sd.data.toList)).length c2)
        refine bodyPost_ret (v := .tuple #[.agg #[.bool m, (.slice A1 (Nt.digs (Nt.dval p.data.toList)).length c1), (.slice A2 (Nt.digs (Nt.dval sd.data.toList)).length c2)], .int .i64 0]) (by simp [results, Tryz.results160, go_sem, n0, n1, n2]) rfl ?_
        refine ⟨below_three HB7.out (by omega) _ _ _, _, _, rfl, .inl ⟨rfl, _, _, _, Nt.read_rd HP.out HM.out HDn1.out HDn2.out ?_ ?_ ?_ ?_ HG.out, ⟨_, _, rfl, HNa.out.apart HR7.out _ _ _, HNb.out.apart HR7.out _ _ _⟩⟩⟩
        · rw [Lib.toList_data] at hz; simpa using hz
        · intro e; rw [Lib.toList_data, e] at hzp; exact absurd hzp (by decide)
        · have e : p.data.toList.length = p.size := rfl
          omega
        · have e : sd.data.toList.length = sd.size := rfl
          omega
      case neg =>
        have HG := Lib.hid hg
        obtain ⟨a0, a1, a2, -, -, -⟩ := hz.three
        have HN := Lib.hid hn
        have HDD := Lib.hid hd
        have HR := Lib.hid hr
        have HB := Lib.hid hb
        have HZb := Lib.hid hz
        clear hz hn hd hr hb hg
        go_wp2_with (first | (go_at_call 68; refine (common_any _ _ _ _ _ HN.out HDD.out HL1.out HL2.out).mono ?_; rintro e w7 ⟨v7, rfl, hn7, hb7⟩; have HN7 := Lib.hid hn7; have hz7 := HZb.out.later hb7; have hr7 := HR.out.later hb7; have hB7 := HB.out.trans (hb7.mono HB.out.size); have HB7 := Lib.hid hB7; have HR7 := Lib.hid hr7; have HNa := Lib.hid (HN.out.below hb7); have HNb := Lib.hid (HDD.out.below hb7); clear a0 a1 a2 hb7 hn7 hB7; obtain ⟨a0, a1, a2, -, -, -⟩ := hz7.three; obtain ⟨r0, r1, r2, f0, f1, f2⟩ := hr7.three; clear hz7 hr7) | (go_at_call 214; refine (one_f _ _ _ HN7.out HG.out).mono ?_; rintro e w8 ⟨rfl, rfl⟩))
        obtain ⟨-, n0, n1, n2⟩ := HR7.out.three_set (.bool false) (.slice none 0 0) (.slice none 0 0)
        refine bodyPost_ret (v := .tuple #[zeroN, .int .i64 4]) (by simp [results, Tryz.results160, go_sem, n0, n1, n2, zeroN]) rfl ?_
        exact ⟨below_three HB7.out (by omega) _ _ _, _, _, rfl, .inr ⟨by decide, rfl, fun h => HG.out (by have h8 := (Nt.ok_iff.1 h).g; rw [HP.out] at h8; exact h8)⟩⟩
end Go.Proofs.YtllhefjblipddaaGreatDoor

namespace Go.Proofs.YtllhefjblipddaaGreatDoor
open Go.RowKit

theorem Nt.Rd.uniq {num den : List UInt8} {m m' : Bool} {n n' d d' : Nat} (h : Nt.Rd num den m n d) (h' : Nt.Rd num den m' n' d') : m = m' ∧ n = n' ∧ d = d' := by
  have a1 := h.num
  have a2 := h'.num
  have p1 := Nt.pre_sgn m n
  have p2 := Nt.pre_sgn m' n'
  rw [← a1] at p1
  rw [← a2] at p2
  refine ⟨p1.2.symm.trans p2.2, ?_, ?_⟩
  · have e := p1.1.symm.trans p2.1
    have := congrArg Nt.dval e
    rwa [Nt.dval_dd, Nt.dval_dd] at this
  · have e := h.den.symm.trans h'.den
    have := congrArg Nt.dval e
    rwa [Nt.dval_dd, Nt.dval_dd] at this

/-- A number, its parts laid open. -/
def NumAt (W : World) (x : Value) (m : Bool) (n d : Nat) (A1 : Option Addr) (c1 : Nat) (A2 : Option Addr) (c2 : Nat) : Prop :=
  x = .agg #[.bool m, .slice A1 (Nt.digs n).length c1, .slice A2 (Nt.digs d).length c2] ∧ Nv W (.slice A1 (Nt.digs n).length c1) (Nt.digs n) ∧ Nv W (.slice A2 (Nt.digs d).length c2) (Nt.digs d)
theorem Nm.at' {W : World} {x : Value} {m : Bool} {n d : Nat} (h : Nm W x m n d) : ∃ A1 c1 A2 c2, NumAt W x m n d A1 c1 A2 c2 := by
  obtain ⟨a, b, rfl, ha, hb⟩ := h.ex
  obtain ⟨A1, c1, rfl, _⟩ := ha.ex
  obtain ⟨A2, c2, rfl, _⟩ := hb.ex
  exact ⟨A1, c1, A2, c2, rfl, ha, hb⟩
theorem Nm.below {W W' : World} {x : Value} {m : Bool} {n d : Nat} (h : Nm W x m n d) (hb : Below W.heap.size W W') : Nm W' x m n d := by
  obtain ⟨a, b, rfl, ha, hb2⟩ := h.ex
  exact ⟨a, b, rfl, ha.below hb, hb2.below hb⟩
theorem read_ok (sn sd : ByteArray) (m : Bool) (n d : Nat) (w : World) (h1 : sn.size ≤ 9223372036854775807) (h2 : sd.size ≤ 9223372036854775807) (h : Nt.Rd sn.data.toList sd.data.toList m n d) :
    Calls Tryz.prog 160 #[.agg #[.string sn, .string sd]] w fun e w' => ∃ A1 c1 A2 c2, e = .returned (.tuple #[.agg #[.bool m, .slice A1 (Nt.digs n).length c1, .slice A2 (Nt.digs d).length c2], .int .i64 0]) ∧
      Nv w' (.slice A1 (Nt.digs n).length c1) (Nt.digs n) ∧ Nv w' (.slice A2 (Nt.digs d).length c2) (Nt.digs d) ∧ Below w.heap.size w w' := by
  refine (read_any sn sd w h1 h2).mono ?_
  rintro e w' ⟨hb, x, c, rfl, (⟨rfl, m', n', d', hr, hx⟩ | ⟨_, _, hno⟩)⟩
  · obtain ⟨rfl, rfl, rfl⟩ := h.uniq hr
    obtain ⟨A1, c1, A2, c2, rfl, g1, g2⟩ := hx.at'
    exact ⟨A1, c1, A2, c2, rfl, g1, g2, hb⟩
  · exact absurd ⟨_, _, _, h⟩ hno
def BothRet (m1 : Bool) (n1 d1 : Nat) (m2 : Bool) (n2 d2 : Nat) (w : World) (e : Ending) (w' : World) : Prop :=
  ∃ A1 c1 A2 c2 B1 k1 B2 k2, e = .returned (.tuple #[.agg #[.bool m1, .slice A1 (Nt.digs n1).length c1, .slice A2 (Nt.digs d1).length c2], .agg #[.bool m2, .slice B1 (Nt.digs n2).length k1, .slice B2 (Nt.digs d2).length k2], .int .i64 0]) ∧
    Nv w' (.slice A1 (Nt.digs n1).length c1) (Nt.digs n1) ∧ Nv w' (.slice A2 (Nt.digs d1).length c2) (Nt.digs d1) ∧ Nv w' (.slice B1 (Nt.digs n2).length k1) (Nt.digs n2) ∧ Nv w' (.slice B2 (Nt.digs d2).length k2) (Nt.digs d2) ∧ Below w.heap.size w w'

set_option maxRecDepth 100000 in
set_option maxHeartbeats 2000000 in
theorem both_ok (a1 a2 b1 b2 : ByteArray) (m1 : Bool) (n1 d1 : Nat) (m2 : Bool) (n2 d2 : Nat) (w : World) (h1 : a1.size ≤ 9223372036854775807) (h2 : a2.size ≤ 9223372036854775807) (h3 : b1.size ≤ 9223372036854775807) (h4 : b2.size ≤ 9223372036854775807)
    (ha : Nt.Rd a1.data.toList a2.data.toList m1 n1 d1) (hb : Nt.Rd b1.data.toList b2.data.toList m2 n2 d2) :
    Calls Tryz.prog 275 #[.agg #[.string a1, .string a2], .agg #[.string b1, .string b2]] w (BothRet m1 n1 d1 m2 n2 d2 w) := by
  have HR1 := Lib.hid fun W => read_ok a1 a2 m1 n1 d1 W h1 h2 ha
  have HR2 := Lib.hid fun W => read_ok b1 b2 m2 n2 d2 W h3 h4 hb
  clear ha hb h1 h2 h3 h4
  have HL0 := Lib.hid (((((Loc.start w).alloc' rfl 24 #[.string a1, .string a2]).alloc' (g := w.heap.size + 1) (by simp) 24 #[.string b1, .string b2]).alloc' (g := w.heap.size + 2) (by simp) 53 #[.bool false, .slice none 0 0, .slice none 0 0]).alloc' (g := w.heap.size + 3) (by simp) 53 #[.bool false, .slice none 0 0, .slice none 0 0])
  go_enter Tryz.func275, Tryz.ntmps275
  go_upto_region 5 with (go_at_call 160; first
    | ((with_reducible refine (HR1.out _).mono ?_); rintro e w1 ⟨A1, c1, A2, c2, rfl, hn1, hn2, hb⟩; have hl := HL0.out.step hb; obtain ⟨x0, x1, -, -⟩ := (hl.blk (g := w.heap.size + 1) (t := 24) (cs := #[.string b1, .string b2]) (by simp)).two; have HL1 := Lib.hid (hl.alloc 53 #[.bool m1, .slice A1 (Nt.digs n1).length c1, .slice A2 (Nt.digs d1).length c2]); have HN1 := Lib.hid hn1; have HN2 := Lib.hid hn2; have LT1 := Lib.hid (hl.blk (g := w.heap.size + 3) (t := 53) (cs := #[.bool false, .slice none 0 0, .slice none 0 0]) (by simp)).lt; have hlt := (hl.blk (g := w.heap.size + 1) (t := 24) (cs := #[.string b1, .string b2]) (by simp)).lt; clear hl hn1 hn2 hb)
    | ((with_reducible refine (HR2.out _).mono ?_); rintro e w2 ⟨B1, k1, B2, k2, rfl, hm1, hm2, hb⟩; have HL2 := Lib.hid ((HL1.out.step hb).alloc 53 #[.bool m2, .slice B1 (Nt.digs n2).length k1, .slice B2 (Nt.digs d2).length k2]); have HM1 := Lib.hid hm1; have HM2 := Lib.hid hm2; have HB := Lib.hid hb; have LT2 := Lib.hid (show w1.heap.size < w2.heap.size by have := hb.size; simp at this; omega); clear hm1 hm2 hb))
  clear x0 x1 hlt
  obtain ⟨x0, x1, x2, -, -, -⟩ := (HL2.out.blk (g := w1.heap.size) (t := 53) (cs := #[.bool m1, .slice A1 (Nt.digs n1).length c1, .slice A2 (Nt.digs d1).length c2]) (by simp)).three
  obtain ⟨y0, y1, y2, f0, f1, f2⟩ := (HL2.out.blk (g := w.heap.size + 2) (t := 53) (cs := #[.bool false, .slice none 0 0, .slice none 0 0]) (by simp)).three
  obtain ⟨z0, z1, z2, g0, g1, g2⟩ := (HL2.out.blk (g := w.heap.size + 3) (t := 53) (cs := #[.bool false, .slice none 0 0, .slice none 0 0]) (by simp)).three
  have l1 : w.heap.size + 3 < w1.heap.size := LT1.out
  have l2 : w1.heap.size < w2.heap.size := LT2.out
  go_region
  have bA := HL2.out.blk (g := w.heap.size + 2) (t := 53) (cs := #[.bool false, .slice none 0 0, .slice none 0 0]) (by simp)
  have bB := HL2.out.blk (g := w.heap.size + 3) (t := 53) (cs := #[.bool false, .slice none 0 0, .slice none 0 0]) (by simp)
  have pA := (bA.three_set (.bool m1) (.slice A1 (Nt.digs n1).length c1) (.slice A2 (Nt.digs d1).length c2)).1
  have pB := bB.three_far (g := w.heap.size + 2) (by omega) (.bool m1) (.slice A1 (Nt.digs n1).length c1) (.slice A2 (Nt.digs d1).length c2)
  have qB := (pB.three_set (.bool m2) (.slice B1 (Nt.digs n2).length k1) (.slice B2 (Nt.digs d2).length k2)).1
  have qA := pA.three_far (g := w.heap.size + 3) (by omega) (.bool m2) (.slice B1 (Nt.digs n2).length k1) (.slice B2 (Nt.digs d2).length k2)
  obtain ⟨u0, u1, u2, -, -, -⟩ := qA.drew.three
  obtain ⟨v0, v1, v2, -, -, -⟩ := qB.drew.three
  have nv : ∀ {v : Value} {l : List Nat}, Nv w2 v l → Nv ((((((((w2.alloc (.cells #[.bool m2, .slice B1 (Nt.digs n2).length k1, .slice B2 (Nt.digs d2).length k2] 53)).setCell ⟨w.heap.size + 2, 0, none⟩ (.bool m1)).setCell ⟨w.heap.size + 2, 1, none⟩ (.slice A1 (Nt.digs n1).length c1)).setCell ⟨w.heap.size + 2, 2, none⟩ (.slice A2 (Nt.digs d1).length c2)).setCell ⟨w.heap.size + 3, 0, none⟩ (.bool m2)).setCell ⟨w.heap.size + 3, 1, none⟩ (.slice B1 (Nt.digs n2).length k1)).setCell ⟨w.heap.size + 3, 2, none⟩ (.slice B2 (Nt.digs d2).length k2)).drew) v l :=
    fun h => ((((h.below ((Below.refl _ w2).alloc (Nat.le_refl _) _)).apart bA _ _ _).apart pB _ _ _).drew)
  have bel := Below.drew (below_three (below_three HL2.out.bel (g := w.heap.size + 2) (by omega) (.bool m1) (.slice A1 (Nt.digs n1).length c1) (.slice A2 (Nt.digs d1).length c2)) (g := w.heap.size + 3) (by omega) (.bool m2) (.slice B1 (Nt.digs n2).length k1) (.slice B2 (Nt.digs d2).length k2))
  have al1 := (Below.refl _ w1).alloc (Nat.le_refl _) (.cells #[.bool m1, .slice A1 (Nt.digs n1).length c1, .slice A2 (Nt.digs d1).length c2] 53)
  have R1 := Lib.hid (nv ((HN1.out.below al1).below HB.out))
  have R2 := Lib.hid (nv ((HN2.out.below al1).below HB.out))
  have R3 := Lib.hid (nv HM1.out)
  have R4 := Lib.hid (nv HM2.out)
  have RB := Lib.hid bel
  clear nv bel al1 bA bB pA pB qA qB x0 x1 x2 y0 y1 y2 z0 z1 z2 f0 f1 f2 g0 g1 g2
  go_wp2_with fail
  refine bodyPost_ret (v := .tuple #[.agg #[.bool m1, .slice A1 (Nt.digs n1).length c1, .slice A2 (Nt.digs d1).length c2], .agg #[.bool m2, .slice B1 (Nt.digs n2).length k1, .slice B2 (Nt.digs d2).length k2], .int .i64 0]) (by simp [results, Tryz.results275, go_sem, u0, u1, u2, v0, v1, v2]) rfl ?_
  exact ⟨A1, c1, A2, c2, B1, k1, B2, k2, rfl, R1.out, R2.out, R3.out, R4.out, RB.out⟩
end Go.Proofs.YtllhefjblipddaaGreatDoor

namespace Go.Proofs.YtllhefjblipddaaGreatDoor
open Go.RowKit

namespace Nt
/-- The text of the numerator, and of the denominator, of the reduced fraction. -/
def numT (m : Bool) (n d : Nat) : List UInt8 := if n = 0 then [48] else sgn m ++ Lib.decDigits (n / Nat.gcd n d)
def denT (n d : Nat) : List UInt8 := if n = 0 then [49] else Lib.decDigits (d / Nat.gcd n d)
end Nt
def WriteRet (m : Bool) (n d : Nat) (w : World) (e : Ending) (w' : World) : Prop := Below w.heap.size w w' ∧ ∃ sn sd : ByteArray, e = .returned (.tuple #[.agg #[.string sn, .string sd], .int .i64 0]) ∧ sn.data.toList = Nt.numT m n d ∧ sd.data.toList = Nt.denT n d

theorem divide_n (va vb : Value) (a b : Nat) (w : World) (ha : Nv w va (Nt.digs a)) (hb : Nv w vb (Nt.digs b)) (sa : (Nt.digs a).length ≤ 900000) (sb : (Nt.digs b).length ≤ 900000) (h0 : b ≠ 0) :
    Calls Tryz.prog 69 #[va, vb] w fun e w' => ∃ v1 v2, e = .returned (.tuple #[v1, v2]) ∧ Nv w' v1 (Nt.digs (a / b)) ∧ Nv w' v2 (Nt.digs (a % b)) ∧ Below w.heap.size w w' := by
  have := divide_any va vb _ _ w ha hb (Nt.digs_canon a) (Nt.digs_canon b) sa sb (by rw [Nt.val_digs]; omega)
  rwa [Nt.val_digs, Nt.val_digs] at this
/-- The text, as a string of its own. -/
theorem text_s (v : Value) (n : Nat) (w : World) (h : Nv w v (Nt.digs n)) (htab : Lib.TabIs Tryz.prog w "internal/strconv.uint64pow10" .u64 Lib.pow10Tab) :
    Calls Tryz.prog 70 #[v] w fun e w' => ∃ t : ByteArray, e = .returned (.string t) ∧ t.data.toList = Lib.decDigits n ∧ Below w.heap.size w w' := by
  refine (text_n v n w h htab).mono ?_
  rintro e w' ⟨rfl, hb⟩
  exact ⟨_, rfl, rfl, hb⟩
theorem digs_mono {a b : Nat} (h : a ≤ b) : (Nt.digs a).length ≤ (Nt.digs b).length := by
  have h1 := Nt.val_lt (Nt.digs_canon b).1
  rw [Nt.val_digs] at h1
  exact Nt.digs_len (Nat.lt_of_le_of_lt h h1)

set_option maxRecDepth 100000 in
set_option maxHeartbeats 4000000 in
theorem write_any (x : Value) (m : Bool) (n d : Nat) (w : World) (h : Nm w x m n d) (hd : d ≠ 0) (s1 : (Nt.digs n).length ≤ 900000) (s2 : (Nt.digs d).length ≤ 900000)
    (f1 : (Lib.decDigits (n / Nat.gcd n d)).length ≤ 300) (f2 : (Lib.decDigits (d / Nat.gcd n d)).length ≤ 300) (htab : Lib.TabIs Tryz.prog w "internal/strconv.uint64pow10" .u64 Lib.pow10Tab) :
    Calls Tryz.prog 22 #[x] w (WriteRet m n d w) := by
  obtain ⟨va, vb, rfl, ha, hb⟩ := h.ex
  have HA := Lib.hid ha
  have HB := Lib.hid hb
  have HT := Lib.hid (show ∀ W, Below w.heap.size w W → Lib.TabIs Tryz.prog W "internal/strconv.uint64pow10" .u64 Lib.pow10Tab from Lib.tabBelow_of_tabIs htab)
  clear htab h
  obtain ⟨A, c, rfl, -, -, -, -⟩ := ha.ex
  obtain ⟨A', c', rfl, -, -, -, -⟩ := hb.ex
  clear ha hb
  rcases Nat.eq_zero_or_pos n with h0 | hpos
  · subst h0
    have e : (Nt.digs 0).length = 0 := by rw [Nt.digs_zero]; rfl
    have hz : (((Nt.digs 0).length : Int) == 0) = true := by rw [e]; rfl
    clear e
    go_enter Tryz.func22, Tryz.ntmps22
    go_wp2_with (go_at_call 67; refine (zero_any _ _ _ _).mono ?_; rintro e w1 ⟨rfl, rfl⟩)
    refine bodyPost_ret (v := .tuple #[.agg #[.string ⟨#[48]⟩, .string ⟨#[49]⟩], .int .i64 0]) (by simp [results, Tryz.results22, go_sem]) rfl ?_
    exact ⟨((Below.refl _ w).alloc (Nat.le_refl _) _).alloc (by simp) _, _, _, rfl, rfl, rfl⟩
  have hl : (Nt.digs n).length ≠ 0 := by rw [Nt.digs_pos hpos]; simp
  have hz : (((Nt.digs n).length : Int) == 0) = false := by rw [beq_eq_false_iff_ne]; omega
  obtain ⟨g, hg⟩ : ∃ g, g = Nat.gcd n d := ⟨_, rfl⟩
  have hg0 : g ≠ 0 := by rw [hg]; exact fun e => hd (Nat.gcd_eq_zero_iff.1 e).2
  have hgl : (Nt.digs g).length ≤ 900000 := Nat.le_trans (digs_mono (by rw [hg]; exact Nat.gcd_le_left d hpos)) s1
  rw [← hg] at f1 f2
  have HG := Lib.hid hg
  have HF1 := Lib.hid f1
  have HF2 := Lib.hid f2
  have hco := fun (W : World) (hb : Below w.heap.size w W) => common_any (.slice A (Nt.digs n).length c) (.slice A' (Nt.digs d).length c') n d W (HA.out.below hb) (HB.out.below hb) s1 s2
  rw [← hg] at hco
  have HCO := Lib.hid hco
  have HDN := Lib.hid fun (W : World) (vg : Value) (h1 : Nv W (.slice A (Nt.digs n).length c) (Nt.digs n)) (h2 : Nv W vg (Nt.digs g)) => divide_n _ vg n g W h1 h2 s1 hgl hg0
  have HDD := Lib.hid fun (W : World) (vg : Value) (h1 : Nv W (.slice A' (Nt.digs d).length c') (Nt.digs d)) (h2 : Nv W vg (Nt.digs g)) => divide_n _ vg d g W h1 h2 s2 hgl hg0
  clear hco hg hg0 f1 f2 hgl hl s1 s2
  have HX0 := Lib.hid ((Blk.new w 53 #[.bool m, .slice A (Nt.digs n).length c, .slice A' (Nt.digs d).length c']).alloc (.cells #[.string ⟨#[]⟩, .string ⟨#[]⟩] 24))
  have hR0 := Blk.new (w.alloc (.cells #[.bool m, .slice A (Nt.digs n).length c, .slice A' (Nt.digs d).length c'] 53)) 24 #[.string ⟨#[]⟩, .string ⟨#[]⟩]
  rw [World.size_alloc] at hR0
  have HR0 := Lib.hid hR0
  have HBe0 := Lib.hid (((Below.refl _ w).alloc (Nat.le_refl _) (.cells #[.bool m, .slice A (Nt.digs n).length c, .slice A' (Nt.digs d).length c'] 53)).alloc (by simp) (.cells #[.string ⟨#[]⟩, .string ⟨#[]⟩] 24))
  clear hR0
  obtain ⟨x0, x1, x2, -, -, -⟩ := HX0.out.three
  obtain ⟨r0, r1, f0, f1⟩ := HR0.out.two
  have hsz : (0 : Int) ≤ 0 := Int.le_refl 0
  cases m
  case false =>
    go_enter Tryz.func22, Tryz.ntmps22
    go_wp2_with (first | (go_at_call 67; refine (zero_any _ _ _ _).mono ?_; rintro e w0 ⟨rfl, rfl⟩) | (go_at_call 68; refine (HCO.out _ (HBe0.out)).mono ?_; rintro e w1 ⟨v1, rfl, hn1, hw1⟩; have HA1 := Lib.hid ((HA.out.below HBe0.out).below hw1); have HB1 := Lib.hid ((HB.out.below HBe0.out).below hw1); have HG1 := Lib.hid hn1; have hX1 := HX0.out.later hw1; have hR1 := HR0.out.later hw1; have hB1 := HBe0.out.trans (hw1.mono HBe0.out.size); have HX1 := Lib.hid hX1; have HR1 := Lib.hid hR1; have HBe1 := Lib.hid hB1; clear hX1 hR1 hB1 x0 x1 x2 r0 r1 f0 f1; obtain ⟨x0, x1, x2, -, -, -⟩ := HX1.out.three; obtain ⟨r0, r1, f0, f1⟩ := HR1.out.two; clear hn1 hw1) | (go_at_call 69; first | ((with_reducible refine (HDN.out _ _ HA1.out HG1.out).mono ?_); rintro e w2 ⟨v2, u2, rfl, hn2, -, hw2⟩; have HB2 := Lib.hid (HB1.out.below hw2); have HG2 := Lib.hid (HG1.out.below hw2); have HN2 := Lib.hid hn2; have hX2 := HX1.out.later hw2; have hR2 := HR1.out.later hw2; have hB2 := HBe1.out.trans (hw2.mono HBe1.out.size); have HX2 := Lib.hid hX2; have HR2 := Lib.hid hR2; have HBe2 := Lib.hid hB2; clear hX2 hR2 hB2 x0 x1 x2 r0 r1 f0 f1; obtain ⟨x0, x1, x2, -, -, -⟩ := HX2.out.three; obtain ⟨r0, r1, f0, f1⟩ := HR2.out.two; clear hn2 hw2) | ((with_reducible refine (HDD.out _ _ HB2.out HG2.out).mono ?_); rintro e w3 ⟨v3, u3, rfl, hn3, -, hw3⟩; have HN3 := Lib.hid (HN2.out.below hw3); have HD3 := Lib.hid hn3; have hX3 := HX2.out.later hw3; have hR3 := HR2.out.later hw3; have hB3 := HBe2.out.trans (hw3.mono HBe2.out.size); have HX3 := Lib.hid hX3; have HR3 := Lib.hid hR3; have HBe3 := Lib.hid hB3; clear hX3 hR3 hB3 x0 x1 x2 r0 r1 f0 f1; obtain ⟨x0, x1, x2, -, -, -⟩ := HX3.out.three; obtain ⟨r0, r1, f0, f1⟩ := HR3.out.two; clear hn3 hw3)) | (go_at_call 70; first | ((with_reducible refine (text_s _ _ _ HN3.out (HT.out _ HBe3.out)).mono ?_); rintro e w4 ⟨t4, rfl, ht4, hw4⟩; have l4 : t4.size ≤ 300 := (by have h9 : t4.data.toList.length = t4.size := rfl; rw [← h9, ht4]; exact HF1.out); have HD4 := Lib.hid (HD3.out.below hw4); have HT4 := Lib.hid ht4; have hX4 := HX3.out.later hw4; have hR4 := HR3.out.later hw4; have hB4 := HBe3.out.trans (hw4.mono HBe3.out.size); have HX4 := Lib.hid hX4; have HR4 := Lib.hid hR4; have HBe4 := Lib.hid hB4; clear hX4 hR4 hB4 x0 x1 x2 r0 r1 f0 f1; obtain ⟨x0, x1, x2, -, -, -⟩ := HX4.out.three; obtain ⟨r0, r1, f0, f1⟩ := HR4.out.two; clear ht4 hw4) | ((with_reducible refine (text_s _ _ _ HD4.out (HT.out _ HBe4.out)).mono ?_); rintro e w5 ⟨t5, rfl, ht5, hw5⟩; have l5 : t5.size ≤ 300 := (by have h9 : t5.data.toList.length = t5.size := rfl; rw [← h9, ht5]; exact HF2.out); have HT5 := Lib.hid ht5; have hX5 := HX4.out.later hw5; have hR5 := HR4.out.later hw5; have hB5 := HBe4.out.trans (hw5.mono HBe4.out.size); have HX5 := Lib.hid hX5; have HR5 := Lib.hid hR5; have HBe5 := Lib.hid hB5; clear hX5 hR5 hB5 x0 x1 x2 r0 r1 f0 f1; obtain ⟨x0, x1, x2, -, -, -⟩ := HX5.out.three; obtain ⟨r0, r1, f0, f1⟩ := HR5.out.two; have y0 := (fun cs => (HX5.out.alloc (.cells cs 24)).three.1); have z0 := (fun cs => (HR5.out.alloc (.cells cs 24)).two.1); have z1 := (fun cs => (HR5.out.alloc (.cells cs 24)).two.2.1); have g0 := (fun cs => (HR5.out.alloc (.cells cs 24)).two.2.2.1); have g1 := (fun cs => (HR5.out.alloc (.cells cs 24)).two.2.2.2); clear ht5 hw5)))
    obtain ⟨-, n0, n1⟩ := (HR5.out.alloc (.cells #[.string t4, .string t5] 24)).two_set (.string t4) (.string t5)
    refine bodyPost_ret (v := .tuple #[.agg #[.string t4, .string t5], .int .i64 0]) (by simp [results, Tryz.results22, go_sem, n0, n1]) rfl ?_
    refine ⟨below_two (HBe5.out.alloc HBe5.out.size _) (by omega) _ _, _, _, rfl, ?_, ?_⟩
    · rw [HT4.out, Nt.numT, if_neg (by omega), ← HG.out]
      rfl
    · rw [HT5.out, Nt.denT, if_neg (by omega), ← HG.out]
  case true =>
    go_enter Tryz.func22, Tryz.ntmps22
    go_wp2_with (first | (go_at_call 67; refine (zero_any _ _ _ _).mono ?_; rintro e w0 ⟨rfl, rfl⟩) | (go_at_call 68; refine (HCO.out _ (HBe0.out)).mono ?_; rintro e w1 ⟨v1, rfl, hn1, hw1⟩; have HA1 := Lib.hid ((HA.out.below HBe0.out).below hw1); have HB1 := Lib.hid ((HB.out.below HBe0.out).below hw1); have HG1 := Lib.hid hn1; have hX1 := HX0.out.later hw1; have hR1 := HR0.out.later hw1; have hB1 := HBe0.out.trans (hw1.mono HBe0.out.size); have HX1 := Lib.hid hX1; have HR1 := Lib.hid hR1; have HBe1 := Lib.hid hB1; clear hX1 hR1 hB1 x0 x1 x2 r0 r1 f0 f1; obtain ⟨x0, x1, x2, -, -, -⟩ := HX1.out.three; obtain ⟨r0, r1, f0, f1⟩ := HR1.out.two; clear hn1 hw1) | (go_at_call 69; first | ((with_reducible refine (HDN.out _ _ HA1.out HG1.out).mono ?_); rintro e w2 ⟨v2, u2, rfl, hn2, -, hw2⟩; have HB2 := Lib.hid (HB1.out.below hw2); have HG2 := Lib.hid (HG1.out.below hw2); have HN2 := Lib.hid hn2; have hX2 := HX1.out.later hw2; have hR2 := HR1.out.later hw2; have hB2 := HBe1.out.trans (hw2.mono HBe1.out.size); have HX2 := Lib.hid hX2; have HR2 := Lib.hid hR2; have HBe2 := Lib.hid hB2; clear hX2 hR2 hB2 x0 x1 x2 r0 r1 f0 f1; obtain ⟨x0, x1, x2, -, -, -⟩ := HX2.out.three; obtain ⟨r0, r1, f0, f1⟩ := HR2.out.two; clear hn2 hw2) | ((with_reducible refine (HDD.out _ _ HB2.out HG2.out).mono ?_); rintro e w3 ⟨v3, u3, rfl, hn3, -, hw3⟩; have HN3 := Lib.hid (HN2.out.below hw3); have HD3 := Lib.hid hn3; have hX3 := HX2.out.later hw3; have hR3 := HR2.out.later hw3; have hB3 := HBe2.out.trans (hw3.mono HBe2.out.size); have HX3 := Lib.hid hX3; have HR3 := Lib.hid hR3; have HBe3 := Lib.hid hB3; clear hX3 hR3 hB3 x0 x1 x2 r0 r1 f0 f1; obtain ⟨x0, x1, x2, -, -, -⟩ := HX3.out.three; obtain ⟨r0, r1, f0, f1⟩ := HR3.out.two; clear hn3 hw3)) | (go_at_call 70; first | ((with_reducible refine (text_s _ _ _ HN3.out (HT.out _ HBe3.out)).mono ?_); rintro e w4 ⟨t4, rfl, ht4, hw4⟩; have l4 : t4.size ≤ 300 := (by have h9 : t4.data.toList.length = t4.size := rfl; rw [← h9, ht4]; exact HF1.out); have HD4 := Lib.hid (HD3.out.below hw4); have HT4 := Lib.hid ht4; have hX4 := HX3.out.later hw4; have hR4 := HR3.out.later hw4; have hB4 := HBe3.out.trans (hw4.mono HBe3.out.size); have HX4 := Lib.hid hX4; have HR4 := Lib.hid hR4; have HBe4 := Lib.hid hB4; clear hX4 hR4 hB4 x0 x1 x2 r0 r1 f0 f1; obtain ⟨x0, x1, x2, -, -, -⟩ := HX4.out.three; obtain ⟨r0, r1, f0, f1⟩ := HR4.out.two; clear ht4 hw4) | ((with_reducible refine (text_s _ _ _ HD4.out (HT.out _ HBe4.out)).mono ?_); rintro e w5 ⟨t5, rfl, ht5, hw5⟩; have l5 : t5.size ≤ 300 := (by have h9 : t5.data.toList.length = t5.size := rfl; rw [← h9, ht5]; exact HF2.out); have HT5 := Lib.hid ht5; have hX5 := HX4.out.later hw5; have hR5 := HR4.out.later hw5; have hB5 := HBe4.out.trans (hw5.mono HBe4.out.size); have HX5 := Lib.hid hX5; have HR5 := Lib.hid hR5; have HBe5 := Lib.hid hB5; clear hX5 hR5 hB5 x0 x1 x2 r0 r1 f0 f1; obtain ⟨x0, x1, x2, -, -, -⟩ := HX5.out.three; obtain ⟨r0, r1, f0, f1⟩ := HR5.out.two; have y0 := (fun cs => (HX5.out.alloc (.cells cs 24)).three.1); have z0 := (fun cs => (HR5.out.alloc (.cells cs 24)).two.1); have z1 := (fun cs => (HR5.out.alloc (.cells cs 24)).two.2.1); have g0 := (fun cs => (HR5.out.alloc (.cells cs 24)).two.2.2.1); have g1 := (fun cs => (HR5.out.alloc (.cells cs 24)).two.2.2.2); clear ht5 hw5)))
    obtain ⟨-, n0, n1⟩ := (HR5.out.alloc (.cells #[.string (⟨#[45]⟩ ++ t4), .string t5] 24)).two_set (.string (⟨#[45]⟩ ++ t4)) (.string t5)
    refine bodyPost_ret (v := .tuple #[.agg #[.string (⟨#[45]⟩ ++ t4), .string t5], .int .i64 0]) (by simp [results, Tryz.results22, go_sem, n0, n1]) rfl ?_
    refine ⟨below_two (HBe5.out.alloc HBe5.out.size _) (by omega) _ _, _, _, rfl, ?_, ?_⟩
    · rw [ByteArray.toList_data_append, HT4.out, Nt.numT, if_neg (by omega), ← HG.out]
      rfl
    · rw [HT5.out, Nt.denT, if_neg (by omega), ← HG.out]
end Go.Proofs.YtllhefjblipddaaGreatDoor

namespace Go.Proofs.YtllhefjblipddaaGreatDoor
open Go.RowKit

/-- What the function handed to two gives. -/
def FnRet (P : Bool → Nat → Prop) (d : Nat) (W : World) (e : Ending) (w' : World) : Prop :=
  ∃ m n A c A' c', e = .returned (.tuple #[.agg #[.bool m, .slice A (Nt.digs n).length c, .slice A' (Nt.digs d).length c'], .int .i64 0]) ∧ P m n ∧ Nv w' (.slice A (Nt.digs n).length c) (Nt.digs n) ∧ Nv w' (.slice A' (Nt.digs d).length c') (Nt.digs d) ∧ Below W.heap.size W w'
def OpRet (P : Bool → Nat → Prop) (d : Nat) (w : World) (e : Ending) (w' : World) : Prop :=
  ∃ (m : Bool) (n : Nat) (sn sd : ByteArray), P m n ∧ e = .returned (.tuple #[.agg #[.string sn, .string sd], .int .i64 0]) ∧ sn.data.toList = Nt.numT m n d ∧ sd.data.toList = Nt.denT n d ∧ Below w.heap.size w w'
structure Fits (n d : Nat) : Prop where
  s1 : (Nt.digs n).length ≤ 900000
  s2 : (Nt.digs d).length ≤ 900000
  f1 : (Lib.decDigits (n / Nat.gcd n d)).length ≤ 300
  f2 : (Lib.decDigits (d / Nat.gcd n d)).length ≤ 300

set_option maxRecDepth 100000 in
set_option maxHeartbeats 2000000 in
theorem two_Add (P : Bool → Nat → Prop) (d : Nat) (hd : d ≠ 0) (a1 a2 b1 b2 : ByteArray) (m1 : Bool) (n1 d1 : Nat) (m2 : Bool) (n2 d2 : Nat) (w : World) (h1 : a1.size ≤ 9223372036854775807) (h2 : a2.size ≤ 9223372036854775807) (h3 : b1.size ≤ 9223372036854775807) (h4 : b2.size ≤ 9223372036854775807)
    (ha : Nt.Rd a1.data.toList a2.data.toList m1 n1 d1) (hb : Nt.Rd b1.data.toList b2.data.toList m2 n2 d2) (htab : Lib.TabIs Tryz.prog w "internal/strconv.uint64pow10" .u64 Lib.pow10Tab)
    (hf : ∀ (W : World) (A1 : Option Addr) (c1 : Nat) (A2 : Option Addr) (c2 : Nat) (B1 : Option Addr) (k1 : Nat) (B2 : Option Addr) (k2 : Nat), Nv W (.slice A1 (Nt.digs n1).length c1) (Nt.digs n1) → Nv W (.slice A2 (Nt.digs d1).length c2) (Nt.digs d1) → Nv W (.slice B1 (Nt.digs n2).length k1) (Nt.digs n2) → Nv W (.slice B2 (Nt.digs d2).length k2) (Nt.digs d2) →
      Calls Tryz.prog 269 #[.agg #[.bool m1, .slice A1 (Nt.digs n1).length c1, .slice A2 (Nt.digs d1).length c2], .agg #[.bool m2, .slice B1 (Nt.digs n2).length k1, .slice B2 (Nt.digs d2).length k2]] W (FnRet P d W))
    (hP : ∀ m n, P m n → Fits n d) :
    Calls Tryz.prog 266 #[.agg #[.string a1, .string a2], .agg #[.string b1, .string b2], .func (.func 269) #[] #[]] w (OpRet P d w) := by
  have HBO := Lib.hid fun W => both_ok a1 a2 b1 b2 m1 n1 d1 m2 n2 d2 W h1 h2 h3 h4 ha hb
  have HF := Lib.hid hf
  have HP := Lib.hid hP
  have HD := Lib.hid hd
  have HT := Lib.hid (show ∀ W, Below w.heap.size w W → Lib.TabIs Tryz.prog W "internal/strconv.uint64pow10" .u64 Lib.pow10Tab from Lib.tabBelow_of_tabIs htab)
  clear ha hb h1 h2 h3 h4 hf hP hd htab
  have HL0 := Lib.hid ((((Loc.start w).alloc' rfl 24 #[.string a1, .string a2]).alloc' (g := w.heap.size + 1) (by simp) 24 #[.string b1, .string b2]).alloc' (g := w.heap.size + 2) (by simp) 24 #[.string ⟨#[]⟩, .string ⟨#[]⟩])
  go_enter Tryz.func266, Tryz.ntmps266
  go_wp2_with (first
    | (go_at_call 275; (with_reducible refine (HBO.out _).mono ?_); rintro e w1 ⟨A1, c1, A2, c2, B1, k1, B2, k2, rfl, hn1, hn2, hm1, hm2, hb⟩; have HL1 := Lib.hid (((HL0.out.step hb).alloc 53 #[.bool m1, .slice A1 (Nt.digs n1).length c1, .slice A2 (Nt.digs d1).length c2]).alloc 53 #[.bool m2, .slice B1 (Nt.digs n2).length k1, .slice B2 (Nt.digs d2).length k2]); have HAL := Lib.hid (((Below.refl _ w1).alloc (Nat.le_refl _) (.cells #[.bool m1, .slice A1 (Nt.digs n1).length c1, .slice A2 (Nt.digs d1).length c2] 53)).alloc (by simp) (.cells #[.bool m2, .slice B1 (Nt.digs n2).length k1, .slice B2 (Nt.digs d2).length k2] 53)); have HN1 := Lib.hid hn1; have HN2 := Lib.hid hn2; have HM1 := Lib.hid hm1; have HM2 := Lib.hid hm2; clear hn1 hn2 hm1 hm2 hb)
    | ((with_reducible refine (HF.out _ _ _ _ _ _ _ _ _ (HN1.out.below HAL.out) (HN2.out.below HAL.out) (HM1.out.below HAL.out) (HM2.out.below HAL.out)).mono ?_); rintro e w2 ⟨m, n, A, c, A', c', rfl, hp, hr1, hr2, hb⟩; have HL2 := Lib.hid ((HL1.out.step hb).alloc 53 #[.bool m, .slice A (Nt.digs n).length c, .slice A' (Nt.digs d).length c']); have HPP := Lib.hid hp; have HR1 := Lib.hid (hr1.below ((Below.refl _ w2).alloc (Nat.le_refl _) (.cells #[.bool m, .slice A (Nt.digs n).length c, .slice A' (Nt.digs d).length c'] 53))); have HR2 := Lib.hid (hr2.below ((Below.refl _ w2).alloc (Nat.le_refl _) (.cells #[.bool m, .slice A (Nt.digs n).length c, .slice A' (Nt.digs d).length c'] 53))); clear hp hr1 hr2 hb)
    | (go_at_call 22; (with_reducible refine (write_any _ m n d _ ⟨_, _, rfl, HR1.out, HR2.out⟩ HD.out (HP.out m n HPP.out).s1 (HP.out m n HPP.out).s2 (HP.out m n HPP.out).f1 (HP.out m n HPP.out).f2 (HT.out _ HL2.out.bel)).mono ?_); rintro e w3 ⟨hb, sn, sd, rfl, e1, e2⟩; have hl := HL2.out.step hb; have HL3 := Lib.hid hl; have bl := hl.blk (g := w.heap.size + 2) (t := 24) (cs := #[.string ⟨#[]⟩, .string ⟨#[]⟩]) (by simp); have HBL := Lib.hid bl; obtain ⟨x0, x1, f0, f1⟩ := bl.two; have E1 := Lib.hid e1; have E2 := Lib.hid e2; clear hl bl hb e1 e2))
  obtain ⟨-, q0, q1⟩ := HBL.out.two_set (.string sn) (.string sd)
  refine bodyPost_ret (v := .tuple #[.agg #[.string sn, .string sd], .int .i64 0]) (by simp [results, Tryz.results266, go_sem, q0, q1]) rfl ?_
  exact ⟨m, n, sn, sd, HPP.out, rfl, E1.out, E2.out, below_two HL3.out.bel (by omega) _ _⟩
set_option maxRecDepth 100000 in
set_option maxHeartbeats 2000000 in
theorem two_Div (P : Bool → Nat → Prop) (d : Nat) (hd : d ≠ 0) (a1 a2 b1 b2 : ByteArray) (m1 : Bool) (n1 d1 : Nat) (m2 : Bool) (n2 d2 : Nat) (w : World) (h1 : a1.size ≤ 9223372036854775807) (h2 : a2.size ≤ 9223372036854775807) (h3 : b1.size ≤ 9223372036854775807) (h4 : b2.size ≤ 9223372036854775807)
    (ha : Nt.Rd a1.data.toList a2.data.toList m1 n1 d1) (hb : Nt.Rd b1.data.toList b2.data.toList m2 n2 d2) (htab : Lib.TabIs Tryz.prog w "internal/strconv.uint64pow10" .u64 Lib.pow10Tab)
    (hf : ∀ (W : World) (A1 : Option Addr) (c1 : Nat) (A2 : Option Addr) (c2 : Nat) (B1 : Option Addr) (k1 : Nat) (B2 : Option Addr) (k2 : Nat), Nv W (.slice A1 (Nt.digs n1).length c1) (Nt.digs n1) → Nv W (.slice A2 (Nt.digs d1).length c2) (Nt.digs d1) → Nv W (.slice B1 (Nt.digs n2).length k1) (Nt.digs n2) → Nv W (.slice B2 (Nt.digs d2).length k2) (Nt.digs d2) →
      Calls Tryz.prog 267 #[.agg #[.bool m1, .slice A1 (Nt.digs n1).length c1, .slice A2 (Nt.digs d1).length c2], .agg #[.bool m2, .slice B1 (Nt.digs n2).length k1, .slice B2 (Nt.digs d2).length k2]] W (FnRet P d W))
    (hP : ∀ m n, P m n → Fits n d) :
    Calls Tryz.prog 266 #[.agg #[.string a1, .string a2], .agg #[.string b1, .string b2], .func (.func 267) #[] #[]] w (OpRet P d w) := by
  have HBO := Lib.hid fun W => both_ok a1 a2 b1 b2 m1 n1 d1 m2 n2 d2 W h1 h2 h3 h4 ha hb
  have HF := Lib.hid hf
  have HP := Lib.hid hP
  have HD := Lib.hid hd
  have HT := Lib.hid (show ∀ W, Below w.heap.size w W → Lib.TabIs Tryz.prog W "internal/strconv.uint64pow10" .u64 Lib.pow10Tab from Lib.tabBelow_of_tabIs htab)
  clear ha hb h1 h2 h3 h4 hf hP hd htab
  have HL0 := Lib.hid ((((Loc.start w).alloc' rfl 24 #[.string a1, .string a2]).alloc' (g := w.heap.size + 1) (by simp) 24 #[.string b1, .string b2]).alloc' (g := w.heap.size + 2) (by simp) 24 #[.string ⟨#[]⟩, .string ⟨#[]⟩])
  go_enter Tryz.func266, Tryz.ntmps266
  go_wp2_with (first
    | (go_at_call 275; (with_reducible refine (HBO.out _).mono ?_); rintro e w1 ⟨A1, c1, A2, c2, B1, k1, B2, k2, rfl, hn1, hn2, hm1, hm2, hb⟩; have HL1 := Lib.hid (((HL0.out.step hb).alloc 53 #[.bool m1, .slice A1 (Nt.digs n1).length c1, .slice A2 (Nt.digs d1).length c2]).alloc 53 #[.bool m2, .slice B1 (Nt.digs n2).length k1, .slice B2 (Nt.digs d2).length k2]); have HAL := Lib.hid (((Below.refl _ w1).alloc (Nat.le_refl _) (.cells #[.bool m1, .slice A1 (Nt.digs n1).length c1, .slice A2 (Nt.digs d1).length c2] 53)).alloc (by simp) (.cells #[.bool m2, .slice B1 (Nt.digs n2).length k1, .slice B2 (Nt.digs d2).length k2] 53)); have HN1 := Lib.hid hn1; have HN2 := Lib.hid hn2; have HM1 := Lib.hid hm1; have HM2 := Lib.hid hm2; clear hn1 hn2 hm1 hm2 hb)
    | ((with_reducible refine (HF.out _ _ _ _ _ _ _ _ _ (HN1.out.below HAL.out) (HN2.out.below HAL.out) (HM1.out.below HAL.out) (HM2.out.below HAL.out)).mono ?_); rintro e w2 ⟨m, n, A, c, A', c', rfl, hp, hr1, hr2, hb⟩; have HL2 := Lib.hid ((HL1.out.step hb).alloc 53 #[.bool m, .slice A (Nt.digs n).length c, .slice A' (Nt.digs d).length c']); have HPP := Lib.hid hp; have HR1 := Lib.hid (hr1.below ((Below.refl _ w2).alloc (Nat.le_refl _) (.cells #[.bool m, .slice A (Nt.digs n).length c, .slice A' (Nt.digs d).length c'] 53))); have HR2 := Lib.hid (hr2.below ((Below.refl _ w2).alloc (Nat.le_refl _) (.cells #[.bool m, .slice A (Nt.digs n).length c, .slice A' (Nt.digs d).length c'] 53))); clear hp hr1 hr2 hb)
    | (go_at_call 22; (with_reducible refine (write_any _ m n d _ ⟨_, _, rfl, HR1.out, HR2.out⟩ HD.out (HP.out m n HPP.out).s1 (HP.out m n HPP.out).s2 (HP.out m n HPP.out).f1 (HP.out m n HPP.out).f2 (HT.out _ HL2.out.bel)).mono ?_); rintro e w3 ⟨hb, sn, sd, rfl, e1, e2⟩; have hl := HL2.out.step hb; have HL3 := Lib.hid hl; have bl := hl.blk (g := w.heap.size + 2) (t := 24) (cs := #[.string ⟨#[]⟩, .string ⟨#[]⟩]) (by simp); have HBL := Lib.hid bl; obtain ⟨x0, x1, f0, f1⟩ := bl.two; have E1 := Lib.hid e1; have E2 := Lib.hid e2; clear hl bl hb e1 e2))
  obtain ⟨-, q0, q1⟩ := HBL.out.two_set (.string sn) (.string sd)
  refine bodyPost_ret (v := .tuple #[.agg #[.string sn, .string sd], .int .i64 0]) (by simp [results, Tryz.results266, go_sem, q0, q1]) rfl ?_
  exact ⟨m, n, sn, sd, HPP.out, rfl, E1.out, E2.out, below_two HL3.out.bel (by omega) _ _⟩
end Go.Proofs.YtllhefjblipddaaGreatDoor
