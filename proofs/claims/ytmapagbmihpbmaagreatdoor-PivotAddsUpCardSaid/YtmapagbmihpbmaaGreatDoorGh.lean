/- The contracts of exact's both, where both texts are fractions. -/
import Derived.Test.YtmapagbmihpbmaaGreatDoorExR
import Derived.Test.YtmapagbmihpbmaaGreatDoorGc
namespace Go.Proofs.YtmapagbmihpbmaaGreatDoor
open Go.RowKit

theorem Nt.Rd.uniq {num den : List UInt8} {m m' : Bool} {n n' d d' : Nat} (h : Nt.Rd num den m n d) (h' : Nt.Rd num den m' n' d') : m = m' ∧ n = n' ∧ d = d' := by
  have a1 := h.num
  have a2 := h'.num
  have p1 := Nt.pre_sgn m n
  have p2 := Nt.pre_sgn m' n'
  rw [← a1] at p1
  rw [← a2] at p2
  refine ⟨p1.2.symm.trans p2.2, ?_, ?_⟩
  · have e := p1.1.symm.trans p2.1
    have := congrArg Nt.dval e
    rwa [Nt.dval_dd, Nt.dval_dd] at this
  · have e := h.den.symm.trans h'.den
    have := congrArg Nt.dval e
    rwa [Nt.dval_dd, Nt.dval_dd] at this

/-- A number, its parts laid open. -/
def NumAt (W : World) (x : Value) (m : Bool) (n d : Nat) (A1 : Option Addr) (c1 : Nat) (A2 : Option Addr) (c2 : Nat) : Prop :=
  x = .agg #[.bool m, .slice A1 (Nt.digs n).length c1, .slice A2 (Nt.digs d).length c2] ∧ Nv W (.slice A1 (Nt.digs n).length c1) (Nt.digs n) ∧ Nv W (.slice A2 (Nt.digs d).length c2) (Nt.digs d)
theorem Nm.at' {W : World} {x : Value} {m : Bool} {n d : Nat} (h : Nm W x m n d) : ∃ A1 c1 A2 c2, NumAt W x m n d A1 c1 A2 c2 := by
  obtain ⟨a, b, rfl, ha, hb⟩ := h.ex
  obtain ⟨A1, c1, rfl, _⟩ := ha.ex
  obtain ⟨A2, c2, rfl, _⟩ := hb.ex
  exact ⟨A1, c1, A2, c2, rfl, ha, hb⟩
theorem Nm.below {W W' : World} {x : Value} {m : Bool} {n d : Nat} (h : Nm W x m n d) (hb : Below W.heap.size W W') : Nm W' x m n d := by
  obtain ⟨a, b, rfl, ha, hb2⟩ := h.ex
  exact ⟨a, b, rfl, ha.below hb, hb2.below hb⟩
theorem read_ok (sn sd : ByteArray) (m : Bool) (n d : Nat) (w : World) (h1 : sn.size ≤ 9223372036854775807) (h2 : sd.size ≤ 9223372036854775807) (h : Nt.Rd sn.data.toList sd.data.toList m n d) :
    Calls Tryz.prog 77 #[.agg #[.string sn, .string sd]] w fun e w' => ∃ A1 c1 A2 c2, e = .returned (.tuple #[.agg #[.bool m, .slice A1 (Nt.digs n).length c1, .slice A2 (Nt.digs d).length c2], .int .i64 0]) ∧
      Nv w' (.slice A1 (Nt.digs n).length c1) (Nt.digs n) ∧ Nv w' (.slice A2 (Nt.digs d).length c2) (Nt.digs d) ∧ Below w.heap.size w w' := by
  refine (read_any sn sd w h1 h2).mono ?_
  rintro e w' ⟨hb, x, c, rfl, (⟨rfl, m', n', d', hr, hx⟩ | ⟨_, _, hno⟩)⟩
  · obtain ⟨rfl, rfl, rfl⟩ := h.uniq hr
    obtain ⟨A1, c1, A2, c2, rfl, g1, g2⟩ := hx.at'
    exact ⟨A1, c1, A2, c2, rfl, g1, g2, hb⟩
  · exact absurd ⟨_, _, _, h⟩ hno
def BothRet (m1 : Bool) (n1 d1 : Nat) (m2 : Bool) (n2 d2 : Nat) (w : World) (e : Ending) (w' : World) : Prop :=
  ∃ A1 c1 A2 c2 B1 k1 B2 k2, e = .returned (.tuple #[.agg #[.bool m1, .slice A1 (Nt.digs n1).length c1, .slice A2 (Nt.digs d1).length c2], .agg #[.bool m2, .slice B1 (Nt.digs n2).length k1, .slice B2 (Nt.digs d2).length k2], .int .i64 0]) ∧
    Nv w' (.slice A1 (Nt.digs n1).length c1) (Nt.digs n1) ∧ Nv w' (.slice A2 (Nt.digs d1).length c2) (Nt.digs d1) ∧ Nv w' (.slice B1 (Nt.digs n2).length k1) (Nt.digs n2) ∧ Nv w' (.slice B2 (Nt.digs d2).length k2) (Nt.digs d2) ∧ Below w.heap.size w w'

set_option maxRecDepth 100000 in
set_option maxHeartbeats 2000000 in
theorem both_ok (a1 a2 b1 b2 : ByteArray) (m1 : Bool) (n1 d1 : Nat) (m2 : Bool) (n2 d2 : Nat) (w : World) (h1 : a1.size ≤ 9223372036854775807) (h2 : a2.size ≤ 9223372036854775807) (h3 : b1.size ≤ 9223372036854775807) (h4 : b2.size ≤ 9223372036854775807)
    (ha : Nt.Rd a1.data.toList a2.data.toList m1 n1 d1) (hb : Nt.Rd b1.data.toList b2.data.toList m2 n2 d2) :
    Calls Tryz.prog 46 #[.agg #[.string a1, .string a2], .agg #[.string b1, .string b2]] w (BothRet m1 n1 d1 m2 n2 d2 w) := by
  have HR1 := Lib.hid fun W => read_ok a1 a2 m1 n1 d1 W h1 h2 ha
  have HR2 := Lib.hid fun W => read_ok b1 b2 m2 n2 d2 W h3 h4 hb
  clear ha hb h1 h2 h3 h4
  have HL0 := Lib.hid (((((Loc.start w).alloc' rfl 24 #[.string a1, .string a2]).alloc' (g := w.heap.size + 1) (by simp) 24 #[.string b1, .string b2]).alloc' (g := w.heap.size + 2) (by simp) 67 #[.bool false, .slice none 0 0, .slice none 0 0]).alloc' (g := w.heap.size + 3) (by simp) 67 #[.bool false, .slice none 0 0, .slice none 0 0])
  go_enter Tryz.func46, Tryz.ntmps46
  go_upto_region 5 with (go_at_call 77; first
    | ((with_reducible refine (HR1.out _).mono ?_); rintro e w1 ⟨A1, c1, A2, c2, rfl, hn1, hn2, hb⟩; have hl := HL0.out.step hb; obtain ⟨x0, x1, -, -⟩ := (hl.blk (g := w.heap.size + 1) (t := 24) (cs := #[.string b1, .string b2]) (by simp)).two; have HL1 := Lib.hid (hl.alloc 67 #[.bool m1, .slice A1 (Nt.digs n1).length c1, .slice A2 (Nt.digs d1).length c2]); have HN1 := Lib.hid hn1; have HN2 := Lib.hid hn2; have LT1 := Lib.hid (hl.blk (g := w.heap.size + 3) (t := 67) (cs := #[.bool false, .slice none 0 0, .slice none 0 0]) (by simp)).lt; have hlt := (hl.blk (g := w.heap.size + 1) (t := 24) (cs := #[.string b1, .string b2]) (by simp)).lt; clear hl hn1 hn2 hb)
    | ((with_reducible refine (HR2.out _).mono ?_); rintro e w2 ⟨B1, k1, B2, k2, rfl, hm1, hm2, hb⟩; have HL2 := Lib.hid ((HL1.out.step hb).alloc 67 #[.bool m2, .slice B1 (Nt.digs n2).length k1, .slice B2 (Nt.digs d2).length k2]); have HM1 := Lib.hid hm1; have HM2 := Lib.hid hm2; have HB := Lib.hid hb; have LT2 := Lib.hid (show w1.heap.size < w2.heap.size by have := hb.size; simp at this; omega); clear hm1 hm2 hb))
  clear x0 x1 hlt
  obtain ⟨x0, x1, x2, -, -, -⟩ := (HL2.out.blk (g := w1.heap.size) (t := 67) (cs := #[.bool m1, .slice A1 (Nt.digs n1).length c1, .slice A2 (Nt.digs d1).length c2]) (by simp)).three
  obtain ⟨y0, y1, y2, f0, f1, f2⟩ := (HL2.out.blk (g := w.heap.size + 2) (t := 67) (cs := #[.bool false, .slice none 0 0, .slice none 0 0]) (by simp)).three
  obtain ⟨z0, z1, z2, g0, g1, g2⟩ := (HL2.out.blk (g := w.heap.size + 3) (t := 67) (cs := #[.bool false, .slice none 0 0, .slice none 0 0]) (by simp)).three
  have l1 : w.heap.size + 3 < w1.heap.size := LT1.out
  have l2 : w1.heap.size < w2.heap.size := LT2.out
  go_region
  have bA := HL2.out.blk (g := w.heap.size + 2) (t := 67) (cs := #[.bool false, .slice none 0 0, .slice none 0 0]) (by simp)
  have bB := HL2.out.blk (g := w.heap.size + 3) (t := 67) (cs := #[.bool false, .slice none 0 0, .slice none 0 0]) (by simp)
  have pA := (bA.three_set (.bool m1) (.slice A1 (Nt.digs n1).length c1) (.slice A2 (Nt.digs d1).length c2)).1
  have pB := bB.three_far (g := w.heap.size + 2) (by omega) (.bool m1) (.slice A1 (Nt.digs n1).length c1) (.slice A2 (Nt.digs d1).length c2)
  have qB := (pB.three_set (.bool m2) (.slice B1 (Nt.digs n2).length k1) (.slice B2 (Nt.digs d2).length k2)).1
  have qA := pA.three_far (g := w.heap.size + 3) (by omega) (.bool m2) (.slice B1 (Nt.digs n2).length k1) (.slice B2 (Nt.digs d2).length k2)
  obtain ⟨u0, u1, u2, -, -, -⟩ := qA.drew.three
  obtain ⟨v0, v1, v2, -, -, -⟩ := qB.drew.three
  have nv : ∀ {v : Value} {l : List Nat}, Nv w2 v l → Nv ((((((((w2.alloc (.cells #[.bool m2, .slice B1 (Nt.digs n2).length k1, .slice B2 (Nt.digs d2).length k2] 67)).setCell ⟨w.heap.size + 2, 0, none⟩ (.bool m1)).setCell ⟨w.heap.size + 2, 1, none⟩ (.slice A1 (Nt.digs n1).length c1)).setCell ⟨w.heap.size + 2, 2, none⟩ (.slice A2 (Nt.digs d1).length c2)).setCell ⟨w.heap.size + 3, 0, none⟩ (.bool m2)).setCell ⟨w.heap.size + 3, 1, none⟩ (.slice B1 (Nt.digs n2).length k1)).setCell ⟨w.heap.size + 3, 2, none⟩ (.slice B2 (Nt.digs d2).length k2)).drew) v l :=
    fun h => ((((h.below ((Below.refl _ w2).alloc (Nat.le_refl _) _)).apart bA _ _ _).apart pB _ _ _).drew)
  have bel := Below.drew (below_three (below_three HL2.out.bel (g := w.heap.size + 2) (by omega) (.bool m1) (.slice A1 (Nt.digs n1).length c1) (.slice A2 (Nt.digs d1).length c2)) (g := w.heap.size + 3) (by omega) (.bool m2) (.slice B1 (Nt.digs n2).length k1) (.slice B2 (Nt.digs d2).length k2))
  have al1 := (Below.refl _ w1).alloc (Nat.le_refl _) (.cells #[.bool m1, .slice A1 (Nt.digs n1).length c1, .slice A2 (Nt.digs d1).length c2] 67)
  have R1 := Lib.hid (nv ((HN1.out.below al1).below HB.out))
  have R2 := Lib.hid (nv ((HN2.out.below al1).below HB.out))
  have R3 := Lib.hid (nv HM1.out)
  have R4 := Lib.hid (nv HM2.out)
  have RB := Lib.hid bel
  clear nv bel al1 bA bB pA pB qA qB x0 x1 x2 y0 y1 y2 z0 z1 z2 f0 f1 f2 g0 g1 g2
  go_wp2_with fail
  refine bodyPost_ret (v := .tuple #[.agg #[.bool m1, .slice A1 (Nt.digs n1).length c1, .slice A2 (Nt.digs d1).length c2], .agg #[.bool m2, .slice B1 (Nt.digs n2).length k1, .slice B2 (Nt.digs d2).length k2], .int .i64 0]) (by simp [results, Tryz.results46, go_sem, u0, u1, u2, v0, v1, v2]) rfl ?_
  exact ⟨A1, c1, A2, c2, B1, k1, B2, k2, rfl, R1.out, R2.out, R3.out, R4.out, RB.out⟩
end Go.Proofs.YtmapagbmihpbmaaGreatDoor

namespace Go.Proofs.YtmapagbmihpbmaaGreatDoor
open Go.RowKit

namespace Nt
/-- The text of the numerator, and of the denominator, of the reduced fraction. -/
def numT (m : Bool) (n d : Nat) : List UInt8 := if n = 0 then [48] else sgn m ++ Lib.decDigits (n / Nat.gcd n d)
def denT (n d : Nat) : List UInt8 := if n = 0 then [49] else Lib.decDigits (d / Nat.gcd n d)
end Nt
def WriteRet (m : Bool) (n d : Nat) (w : World) (e : Ending) (w' : World) : Prop := Below w.heap.size w w' ∧ ∃ sn sd : ByteArray, e = .returned (.tuple #[.agg #[.string sn, .string sd], .int .i64 0]) ∧ sn.data.toList = Nt.numT m n d ∧ sd.data.toList = Nt.denT n d

theorem divide_n (va vb : Value) (a b : Nat) (w : World) (ha : Nv w va (Nt.digs a)) (hb : Nv w vb (Nt.digs b)) (sa : (Nt.digs a).length ≤ 900000) (sb : (Nt.digs b).length ≤ 900000) (h0 : b ≠ 0) :
    Calls Tryz.prog 79 #[va, vb] w fun e w' => ∃ v1 v2, e = .returned (.tuple #[v1, v2]) ∧ Nv w' v1 (Nt.digs (a / b)) ∧ Nv w' v2 (Nt.digs (a % b)) ∧ Below w.heap.size w w' := by
  have := divide_any va vb _ _ w ha hb (Nt.digs_canon a) (Nt.digs_canon b) sa sb (by rw [Nt.val_digs]; omega)
  rwa [Nt.val_digs, Nt.val_digs] at this
/-- The text, as a string of its own. -/
theorem text_s (v : Value) (n : Nat) (w : World) (h : Nv w v (Nt.digs n)) (htab : Lib.TabIs Tryz.prog w "internal/strconv.uint64pow10" .u64 Lib.pow10Tab) :
    Calls Tryz.prog 80 #[v] w fun e w' => ∃ t : ByteArray, e = .returned (.string t) ∧ t.data.toList = Lib.decDigits n ∧ Below w.heap.size w w' := by
  refine (text_n v n w h htab).mono ?_
  rintro e w' ⟨rfl, hb⟩
  exact ⟨_, rfl, rfl, hb⟩
theorem digs_mono {a b : Nat} (h : a ≤ b) : (Nt.digs a).length ≤ (Nt.digs b).length := by
  have h1 := Nt.val_lt (Nt.digs_canon b).1
  rw [Nt.val_digs] at h1
  exact Nt.digs_len (Nat.lt_of_le_of_lt h h1)

set_option maxRecDepth 100000 in
set_option maxHeartbeats 4000000 in
theorem write_any (x : Value) (m : Bool) (n d : Nat) (w : World) (h : Nm w x m n d) (hd : d ≠ 0) (s1 : (Nt.digs n).length ≤ 900000) (s2 : (Nt.digs d).length ≤ 900000)
    (f1 : (Lib.decDigits (n / Nat.gcd n d)).length ≤ 300) (f2 : (Lib.decDigits (d / Nat.gcd n d)).length ≤ 300) (htab : Lib.TabIs Tryz.prog w "internal/strconv.uint64pow10" .u64 Lib.pow10Tab) :
    Calls Tryz.prog 47 #[x] w (WriteRet m n d w) := by
  obtain ⟨va, vb, rfl, ha, hb⟩ := h.ex
  have HA := Lib.hid ha
  have HB := Lib.hid hb
  have HT := Lib.hid (show ∀ W, Below w.heap.size w W → Lib.TabIs Tryz.prog W "internal/strconv.uint64pow10" .u64 Lib.pow10Tab from Lib.tabBelow_of_tabIs htab)
  clear htab h
  obtain ⟨A, c, rfl, -, -, -, -⟩ := ha.ex
  obtain ⟨A', c', rfl, -, -, -, -⟩ := hb.ex
  clear ha hb
  rcases Nat.eq_zero_or_pos n with h0 | hpos
  · subst h0
    have e : (Nt.digs 0).length = 0 := by rw [Nt.digs_zero]; rfl
    have hz : (((Nt.digs 0).length : Int) == 0) = true := by rw [e]; rfl
    clear e
    go_enter Tryz.func47, Tryz.ntmps47
    go_wp2_with (go_at_call 75; refine (zero_any _ _ _ _).mono ?_; rintro e w1 ⟨rfl, rfl⟩)
    refine bodyPost_ret (v := .tuple #[.agg #[.string ⟨#[48]⟩, .string ⟨#[49]⟩], .int .i64 0]) (by simp [results, Tryz.results47, go_sem]) rfl ?_
    exact ⟨((Below.refl _ w).alloc (Nat.le_refl _) _).alloc (by simp) _, _, _, rfl, rfl, rfl⟩
  have hl : (Nt.digs n).length ≠ 0 := by rw [Nt.digs_pos hpos]; simp
  have hz : (((Nt.digs n).length : Int) == 0) = false := by rw [beq_eq_false_iff_ne]; omega
  obtain ⟨g, hg⟩ : ∃ g, g = Nat.gcd n d := ⟨_, rfl⟩
  have hg0 : g ≠ 0 := by rw [hg]; exact fun e => hd (Nat.gcd_eq_zero_iff.1 e).2
  have hgl : (Nt.digs g).length ≤ 900000 := Nat.le_trans (digs_mono (by rw [hg]; exact Nat.gcd_le_left d hpos)) s1
  rw [← hg] at f1 f2
  have HG := Lib.hid hg
  have HF1 := Lib.hid f1
  have HF2 := Lib.hid f2
  have hco := fun (W : World) (hb : Below w.heap.size w W) => common_any (.slice A (Nt.digs n).length c) (.slice A' (Nt.digs d).length c') n d W (HA.out.below hb) (HB.out.below hb) s1 s2
  rw [← hg] at hco
  have HCO := Lib.hid hco
  have HDN := Lib.hid fun (W : World) (vg : Value) (h1 : Nv W (.slice A (Nt.digs n).length c) (Nt.digs n)) (h2 : Nv W vg (Nt.digs g)) => divide_n _ vg n g W h1 h2 s1 hgl hg0
  have HDD := Lib.hid fun (W : World) (vg : Value) (h1 : Nv W (.slice A' (Nt.digs d).length c') (Nt.digs d)) (h2 : Nv W vg (Nt.digs g)) => divide_n _ vg d g W h1 h2 s2 hgl hg0
  clear hco hg hg0 f1 f2 hgl hl s1 s2
  have HX0 := Lib.hid ((Blk.new w 67 #[.bool m, .slice A (Nt.digs n).length c, .slice A' (Nt.digs d).length c']).alloc (.cells #[.string ⟨#[]⟩, .string ⟨#[]⟩] 24))
  have hR0 := Blk.new (w.alloc (.cells #[.bool m, .slice A (Nt.digs n).length c, .slice A' (Nt.digs d).length c'] 67)) 24 #[.string ⟨#[]⟩, .string ⟨#[]⟩]
  rw [World.size_alloc] at hR0
  have HR0 := Lib.hid hR0
  have HBe0 := Lib.hid (((Below.refl _ w).alloc (Nat.le_refl _) (.cells #[.bool m, .slice A (Nt.digs n).length c, .slice A' (Nt.digs d).length c'] 67)).alloc (by simp) (.cells #[.string ⟨#[]⟩, .string ⟨#[]⟩] 24))
  clear hR0
  obtain ⟨x0, x1, x2, -, -, -⟩ := HX0.out.three
  obtain ⟨r0, r1, f0, f1⟩ := HR0.out.two
  have hsz : (0 : Int) ≤ 0 := Int.le_refl 0
  cases m
  case false =>
    go_enter Tryz.func47, Tryz.ntmps47
    go_wp2_with (first | (go_at_call 75; refine (zero_any _ _ _ _).mono ?_; rintro e w0 ⟨rfl, rfl⟩) | (go_at_call 78; refine (HCO.out _ (HBe0.out)).mono ?_; rintro e w1 ⟨v1, rfl, hn1, hw1⟩; have HA1 := Lib.hid ((HA.out.below HBe0.out).below hw1); have HB1 := Lib.hid ((HB.out.below HBe0.out).below hw1); have HG1 := Lib.hid hn1; have hX1 := HX0.out.later hw1; have hR1 := HR0.out.later hw1; have hB1 := HBe0.out.trans (hw1.mono HBe0.out.size); have HX1 := Lib.hid hX1; have HR1 := Lib.hid hR1; have HBe1 := Lib.hid hB1; clear hX1 hR1 hB1 x0 x1 x2 r0 r1 f0 f1; obtain ⟨x0, x1, x2, -, -, -⟩ := HX1.out.three; obtain ⟨r0, r1, f0, f1⟩ := HR1.out.two; clear hn1 hw1) | (go_at_call 79; first | ((with_reducible refine (HDN.out _ _ HA1.out HG1.out).mono ?_); rintro e w2 ⟨v2, u2, rfl, hn2, -, hw2⟩; have HB2 := Lib.hid (HB1.out.below hw2); have HG2 := Lib.hid (HG1.out.below hw2); have HN2 := Lib.hid hn2; have hX2 := HX1.out.later hw2; have hR2 := HR1.out.later hw2; have hB2 := HBe1.out.trans (hw2.mono HBe1.out.size); have HX2 := Lib.hid hX2; have HR2 := Lib.hid hR2; have HBe2 := Lib.hid hB2; clear hX2 hR2 hB2 x0 x1 x2 r0 r1 f0 f1; obtain ⟨x0, x1, x2, -, -, -⟩ := HX2.out.three; obtain ⟨r0, r1, f0, f1⟩ := HR2.out.two; clear hn2 hw2) | ((with_reducible refine (HDD.out _ _ HB2.out HG2.out).mono ?_); rintro e w3 ⟨v3, u3, rfl, hn3, -, hw3⟩; have HN3 := Lib.hid (HN2.out.below hw3); have HD3 := Lib.hid hn3; have hX3 := HX2.out.later hw3; have hR3 := HR2.out.later hw3; have hB3 := HBe2.out.trans (hw3.mono HBe2.out.size); have HX3 := Lib.hid hX3; have HR3 := Lib.hid hR3; have HBe3 := Lib.hid hB3; clear hX3 hR3 hB3 x0 x1 x2 r0 r1 f0 f1; obtain ⟨x0, x1, x2, -, -, -⟩ := HX3.out.three; obtain ⟨r0, r1, f0, f1⟩ := HR3.out.two; clear hn3 hw3)) | (go_at_call 80; first | ((with_reducible refine (text_s _ _ _ HN3.out (HT.out _ HBe3.out)).mono ?_); rintro e w4 ⟨t4, rfl, ht4, hw4⟩; have l4 : t4.size ≤ 300 := (by have h9 : t4.data.toList.length = t4.size := rfl; rw [← h9, ht4]; exact HF1.out); have HD4 := Lib.hid (HD3.out.below hw4); have HT4 := Lib.hid ht4; have hX4 := HX3.out.later hw4; have hR4 := HR3.out.later hw4; have hB4 := HBe3.out.trans (hw4.mono HBe3.out.size); have HX4 := Lib.hid hX4; have HR4 := Lib.hid hR4; have HBe4 := Lib.hid hB4; clear hX4 hR4 hB4 x0 x1 x2 r0 r1 f0 f1; obtain ⟨x0, x1, x2, -, -, -⟩ := HX4.out.three; obtain ⟨r0, r1, f0, f1⟩ := HR4.out.two; clear ht4 hw4) | ((with_reducible refine (text_s _ _ _ HD4.out (HT.out _ HBe4.out)).mono ?_); rintro e w5 ⟨t5, rfl, ht5, hw5⟩; have l5 : t5.size ≤ 300 := (by have h9 : t5.data.toList.length = t5.size := rfl; rw [← h9, ht5]; exact HF2.out); have HT5 := Lib.hid ht5; have hX5 := HX4.out.later hw5; have hR5 := HR4.out.later hw5; have hB5 := HBe4.out.trans (hw5.mono HBe4.out.size); have HX5 := Lib.hid hX5; have HR5 := Lib.hid hR5; have HBe5 := Lib.hid hB5; clear hX5 hR5 hB5 x0 x1 x2 r0 r1 f0 f1; obtain ⟨x0, x1, x2, -, -, -⟩ := HX5.out.three; obtain ⟨r0, r1, f0, f1⟩ := HR5.out.two; have y0 := (fun cs => (HX5.out.alloc (.cells cs 24)).three.1); have z0 := (fun cs => (HR5.out.alloc (.cells cs 24)).two.1); have z1 := (fun cs => (HR5.out.alloc (.cells cs 24)).two.2.1); have g0 := (fun cs => (HR5.out.alloc (.cells cs 24)).two.2.2.1); have g1 := (fun cs => (HR5.out.alloc (.cells cs 24)).two.2.2.2); clear ht5 hw5)))
    obtain ⟨-, n0, n1⟩ := (HR5.out.alloc (.cells #[.string t4, .string t5] 24)).two_set (.string t4) (.string t5)
    refine bodyPost_ret (v := .tuple #[.agg #[.string t4, .string t5], .int .i64 0]) (by simp [results, Tryz.results47, go_sem, n0, n1]) rfl ?_
    refine ⟨below_two (HBe5.out.alloc HBe5.out.size _) (by omega) _ _, _, _, rfl, ?_, ?_⟩
    · rw [HT4.out, Nt.numT, if_neg (by omega), ← HG.out]
      rfl
    · rw [HT5.out, Nt.denT, if_neg (by omega), ← HG.out]
  case true =>
    go_enter Tryz.func47, Tryz.ntmps47
    go_wp2_with (first | (go_at_call 75; refine (zero_any _ _ _ _).mono ?_; rintro e w0 ⟨rfl, rfl⟩) | (go_at_call 78; refine (HCO.out _ (HBe0.out)).mono ?_; rintro e w1 ⟨v1, rfl, hn1, hw1⟩; have HA1 := Lib.hid ((HA.out.below HBe0.out).below hw1); have HB1 := Lib.hid ((HB.out.below HBe0.out).below hw1); have HG1 := Lib.hid hn1; have hX1 := HX0.out.later hw1; have hR1 := HR0.out.later hw1; have hB1 := HBe0.out.trans (hw1.mono HBe0.out.size); have HX1 := Lib.hid hX1; have HR1 := Lib.hid hR1; have HBe1 := Lib.hid hB1; clear hX1 hR1 hB1 x0 x1 x2 r0 r1 f0 f1; obtain ⟨x0, x1, x2, -, -, -⟩ := HX1.out.three; obtain ⟨r0, r1, f0, f1⟩ := HR1.out.two; clear hn1 hw1) | (go_at_call 79; first | ((with_reducible refine (HDN.out _ _ HA1.out HG1.out).mono ?_); rintro e w2 ⟨v2, u2, rfl, hn2, -, hw2⟩; have HB2 := Lib.hid (HB1.out.below hw2); have HG2 := Lib.hid (HG1.out.below hw2); have HN2 := Lib.hid hn2; have hX2 := HX1.out.later hw2; have hR2 := HR1.out.later hw2; have hB2 := HBe1.out.trans (hw2.mono HBe1.out.size); have HX2 := Lib.hid hX2; have HR2 := Lib.hid hR2; have HBe2 := Lib.hid hB2; clear hX2 hR2 hB2 x0 x1 x2 r0 r1 f0 f1; obtain ⟨x0, x1, x2, -, -, -⟩ := HX2.out.three; obtain ⟨r0, r1, f0, f1⟩ := HR2.out.two; clear hn2 hw2) | ((with_reducible refine (HDD.out _ _ HB2.out HG2.out).mono ?_); rintro e w3 ⟨v3, u3, rfl, hn3, -, hw3⟩; have HN3 := Lib.hid (HN2.out.below hw3); have HD3 := Lib.hid hn3; have hX3 := HX2.out.later hw3; have hR3 := HR2.out.later hw3; have hB3 := HBe2.out.trans (hw3.mono HBe2.out.size); have HX3 := Lib.hid hX3; have HR3 := Lib.hid hR3; have HBe3 := Lib.hid hB3; clear hX3 hR3 hB3 x0 x1 x2 r0 r1 f0 f1; obtain ⟨x0, x1, x2, -, -, -⟩ := HX3.out.three; obtain ⟨r0, r1, f0, f1⟩ := HR3.out.two; clear hn3 hw3)) | (go_at_call 80; first | ((with_reducible refine (text_s _ _ _ HN3.out (HT.out _ HBe3.out)).mono ?_); rintro e w4 ⟨t4, rfl, ht4, hw4⟩; have l4 : t4.size ≤ 300 := (by have h9 : t4.data.toList.length = t4.size := rfl; rw [← h9, ht4]; exact HF1.out); have HD4 := Lib.hid (HD3.out.below hw4); have HT4 := Lib.hid ht4; have hX4 := HX3.out.later hw4; have hR4 := HR3.out.later hw4; have hB4 := HBe3.out.trans (hw4.mono HBe3.out.size); have HX4 := Lib.hid hX4; have HR4 := Lib.hid hR4; have HBe4 := Lib.hid hB4; clear hX4 hR4 hB4 x0 x1 x2 r0 r1 f0 f1; obtain ⟨x0, x1, x2, -, -, -⟩ := HX4.out.three; obtain ⟨r0, r1, f0, f1⟩ := HR4.out.two; clear ht4 hw4) | ((with_reducible refine (text_s _ _ _ HD4.out (HT.out _ HBe4.out)).mono ?_); rintro e w5 ⟨t5, rfl, ht5, hw5⟩; have l5 : t5.size ≤ 300 := (by have h9 : t5.data.toList.length = t5.size := rfl; rw [← h9, ht5]; exact HF2.out); have HT5 := Lib.hid ht5; have hX5 := HX4.out.later hw5; have hR5 := HR4.out.later hw5; have hB5 := HBe4.out.trans (hw5.mono HBe4.out.size); have HX5 := Lib.hid hX5; have HR5 := Lib.hid hR5; have HBe5 := Lib.hid hB5; clear hX5 hR5 hB5 x0 x1 x2 r0 r1 f0 f1; obtain ⟨x0, x1, x2, -, -, -⟩ := HX5.out.three; obtain ⟨r0, r1, f0, f1⟩ := HR5.out.two; have y0 := (fun cs => (HX5.out.alloc (.cells cs 24)).three.1); have z0 := (fun cs => (HR5.out.alloc (.cells cs 24)).two.1); have z1 := (fun cs => (HR5.out.alloc (.cells cs 24)).two.2.1); have g0 := (fun cs => (HR5.out.alloc (.cells cs 24)).two.2.2.1); have g1 := (fun cs => (HR5.out.alloc (.cells cs 24)).two.2.2.2); clear ht5 hw5)))
    obtain ⟨-, n0, n1⟩ := (HR5.out.alloc (.cells #[.string (⟨#[45]⟩ ++ t4), .string t5] 24)).two_set (.string (⟨#[45]⟩ ++ t4)) (.string t5)
    refine bodyPost_ret (v := .tuple #[.agg #[.string (⟨#[45]⟩ ++ t4), .string t5], .int .i64 0]) (by simp [results, Tryz.results47, go_sem, n0, n1]) rfl ?_
    refine ⟨below_two (HBe5.out.alloc HBe5.out.size _) (by omega) _ _, _, _, rfl, ?_, ?_⟩
    · rw [ByteArray.toList_data_append, HT4.out, Nt.numT, if_neg (by omega), ← HG.out]
      rfl
    · rw [HT5.out, Nt.denT, if_neg (by omega), ← HG.out]
end Go.Proofs.YtmapagbmihpbmaaGreatDoor
