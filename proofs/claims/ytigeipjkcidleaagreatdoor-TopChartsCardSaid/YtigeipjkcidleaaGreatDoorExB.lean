/- The contracts of exact's both, where both texts are fractions. -/
import Derived.Test.YtigeipjkcidleaaGreatDoorExR
import Derived.Test.YtigeipjkcidleaaGreatDoorLoc
namespace Go.Proofs.YtigeipjkcidleaaGreatDoor
open Go.RowKit

theorem Nt.Rd.uniq {num den : List UInt8} {m m' : Bool} {n n' d d' : Nat} (h : Nt.Rd num den m n d) (h' : Nt.Rd num den m' n' d') : m = m' ∧ n = n' ∧ d = d' := by
  have a1 := h.num
  have a2 := h'.num
  have p1 := Nt.pre_sgn m n
  have p2 := Nt.pre_sgn m' n'
  rw [← a1] at p1
  rw [← a2] at p2
  refine ⟨p1.2.symm.trans p2.2, ?_, ?_⟩
  · have e := p1.1.symm.trans p2.1
    have := congrArg Nt.dval e
    rwa [Nt.dval_dd, Nt.dval_dd] at this
  · have e := h.den.symm.trans h'.den
    have := congrArg Nt.dval e
    rwa [Nt.dval_dd, Nt.dval_dd] at this

/-- A number, its parts laid open. -/
def NumAt (W : World) (x : Value) (m : Bool) (n d : Nat) (A1 : Option Addr) (c1 : Nat) (A2 : Option Addr) (c2 : Nat) : Prop :=
  x = .agg #[.bool m, .slice A1 (Nt.digs n).length c1, .slice A2 (Nt.digs d).length c2] ∧ Nv W (.slice A1 (Nt.digs n).length c1) (Nt.digs n) ∧ Nv W (.slice A2 (Nt.digs d).length c2) (Nt.digs d)
theorem Nm.at' {W : World} {x : Value} {m : Bool} {n d : Nat} (h : Nm W x m n d) : ∃ A1 c1 A2 c2, NumAt W x m n d A1 c1 A2 c2 := by
  obtain ⟨a, b, rfl, ha, hb⟩ := h.ex
  obtain ⟨A1, c1, rfl, _⟩ := ha.ex
  obtain ⟨A2, c2, rfl, _⟩ := hb.ex
  exact ⟨A1, c1, A2, c2, rfl, ha, hb⟩
theorem Nm.below {W W' : World} {x : Value} {m : Bool} {n d : Nat} (h : Nm W x m n d) (hb : Below W.heap.size W W') : Nm W' x m n d := by
  obtain ⟨a, b, rfl, ha, hb2⟩ := h.ex
  exact ⟨a, b, rfl, ha.below hb, hb2.below hb⟩
theorem read_ok (sn sd : ByteArray) (m : Bool) (n d : Nat) (w : World) (h1 : sn.size ≤ 9223372036854775807) (h2 : sd.size ≤ 9223372036854775807) (h : Nt.Rd sn.data.toList sd.data.toList m n d) :
    Calls Tryz.prog 129 #[.agg #[.string sn, .string sd]] w fun e w' => ∃ A1 c1 A2 c2, e = .returned (.tuple #[.agg #[.bool m, .slice A1 (Nt.digs n).length c1, .slice A2 (Nt.digs d).length c2], .int .i64 0]) ∧
      Nv w' (.slice A1 (Nt.digs n).length c1) (Nt.digs n) ∧ Nv w' (.slice A2 (Nt.digs d).length c2) (Nt.digs d) ∧ Below w.heap.size w w' := by
  refine (read_any sn sd w h1 h2).mono ?_
  rintro e w' ⟨hb, x, c, rfl, (⟨rfl, m', n', d', hr, hx⟩ | ⟨_, _, hno⟩)⟩
  · obtain ⟨rfl, rfl, rfl⟩ := h.uniq hr
    obtain ⟨A1, c1, A2, c2, rfl, g1, g2⟩ := hx.at'
    exact ⟨A1, c1, A2, c2, rfl, g1, g2, hb⟩
  · exact absurd ⟨_, _, _, h⟩ hno
def BothRet (m1 : Bool) (n1 d1 : Nat) (m2 : Bool) (n2 d2 : Nat) (w : World) (e : Ending) (w' : World) : Prop :=
  ∃ A1 c1 A2 c2 B1 k1 B2 k2, e = .returned (.tuple #[.agg #[.bool m1, .slice A1 (Nt.digs n1).length c1, .slice A2 (Nt.digs d1).length c2], .agg #[.bool m2, .slice B1 (Nt.digs n2).length k1, .slice B2 (Nt.digs d2).length k2], .int .i64 0]) ∧
    Nv w' (.slice A1 (Nt.digs n1).length c1) (Nt.digs n1) ∧ Nv w' (.slice A2 (Nt.digs d1).length c2) (Nt.digs d1) ∧ Nv w' (.slice B1 (Nt.digs n2).length k1) (Nt.digs n2) ∧ Nv w' (.slice B2 (Nt.digs d2).length k2) (Nt.digs d2) ∧ Below w.heap.size w w'

set_option maxRecDepth 100000 in
set_option maxHeartbeats 2000000 in
theorem both_ok (a1 a2 b1 b2 : ByteArray) (m1 : Bool) (n1 d1 : Nat) (m2 : Bool) (n2 d2 : Nat) (w : World) (h1 : a1.size ≤ 9223372036854775807) (h2 : a2.size ≤ 9223372036854775807) (h3 : b1.size ≤ 9223372036854775807) (h4 : b2.size ≤ 9223372036854775807)
    (ha : Nt.Rd a1.data.toList a2.data.toList m1 n1 d1) (hb : Nt.Rd b1.data.toList b2.data.toList m2 n2 d2) :
    Calls Tryz.prog 75 #[.agg #[.string a1, .string a2], .agg #[.string b1, .string b2]] w (BothRet m1 n1 d1 m2 n2 d2 w) := by
  have HR1 := Lib.hid fun W => read_ok a1 a2 m1 n1 d1 W h1 h2 ha
  have HR2 := Lib.hid fun W => read_ok b1 b2 m2 n2 d2 W h3 h4 hb
  clear ha hb h1 h2 h3 h4
  have HL0 := Lib.hid (((((Loc.start w).alloc' rfl 24 #[.string a1, .string a2]).alloc' (g := w.heap.size + 1) (by simp) 24 #[.string b1, .string b2]).alloc' (g := w.heap.size + 2) (by simp) 107 #[.bool false, .slice none 0 0, .slice none 0 0]).alloc' (g := w.heap.size + 3) (by simp) 107 #[.bool false, .slice none 0 0, .slice none 0 0])
  go_enter Tryz.func75, Tryz.ntmps75
  go_upto_region 5 with (go_at_call 129; first
    | ((with_reducible refine (HR1.out _).mono ?_); rintro e w1 ⟨A1, c1, A2, c2, rfl, hn1, hn2, hb⟩; have hl := HL0.out.step hb; obtain ⟨x0, x1, -, -⟩ := (hl.blk (g := w.heap.size + 1) (t := 24) (cs := #[.string b1, .string b2]) (by simp)).two; have HL1 := Lib.hid (hl.alloc 107 #[.bool m1, .slice A1 (Nt.digs n1).length c1, .slice A2 (Nt.digs d1).length c2]); have HN1 := Lib.hid hn1; have HN2 := Lib.hid hn2; have LT1 := Lib.hid (hl.blk (g := w.heap.size + 3) (t := 107) (cs := #[.bool false, .slice none 0 0, .slice none 0 0]) (by simp)).lt; have hlt := (hl.blk (g := w.heap.size + 1) (t := 24) (cs := #[.string b1, .string b2]) (by simp)).lt; clear hl hn1 hn2 hb)
    | ((with_reducible refine (HR2.out _).mono ?_); rintro e w2 ⟨B1, k1, B2, k2, rfl, hm1, hm2, hb⟩; have HL2 := Lib.hid ((HL1.out.step hb).alloc 107 #[.bool m2, .slice B1 (Nt.digs n2).length k1, .slice B2 (Nt.digs d2).length k2]); have HM1 := Lib.hid hm1; have HM2 := Lib.hid hm2; have HB := Lib.hid hb; have LT2 := Lib.hid (show w1.heap.size < w2.heap.size by have := hb.size; simp at this; omega); clear hm1 hm2 hb))
  clear x0 x1 hlt
  obtain ⟨x0, x1, x2, -, -, -⟩ := (HL2.out.blk (g := w1.heap.size) (t := 107) (cs := #[.bool m1, .slice A1 (Nt.digs n1).length c1, .slice A2 (Nt.digs d1).length c2]) (by simp)).three
  obtain ⟨y0, y1, y2, f0, f1, f2⟩ := (HL2.out.blk (g := w.heap.size + 2) (t := 107) (cs := #[.bool false, .slice none 0 0, .slice none 0 0]) (by simp)).three
  obtain ⟨z0, z1, z2, g0, g1, g2⟩ := (HL2.out.blk (g := w.heap.size + 3) (t := 107) (cs := #[.bool false, .slice none 0 0, .slice none 0 0]) (by simp)).three
  have l1 : w.heap.size + 3 < w1.heap.size := LT1.out
  have l2 : w1.heap.size < w2.heap.size := LT2.out
  go_region
  have bA := HL2.out.blk (g := w.heap.size + 2) (t := 107) (cs := #[.bool false, .slice none 0 0, .slice none 0 0]) (by simp)
  have bB := HL2.out.blk (g := w.heap.size + 3) (t := 107) (cs := #[.bool false, .slice none 0 0, .slice none 0 0]) (by simp)
  have pA := (bA.three_set (.bool m1) (.slice A1 (Nt.digs n1).length c1) (.slice A2 (Nt.digs d1).length c2)).1
  have pB := bB.three_far (g := w.heap.size + 2) (by omega) (.bool m1) (.slice A1 (Nt.digs n1).length c1) (.slice A2 (Nt.digs d1).length c2)
  have qB := (pB.three_set (.bool m2) (.slice B1 (Nt.digs n2).length k1) (.slice B2 (Nt.digs d2).length k2)).1
  have qA := pA.three_far (g := w.heap.size + 3) (by omega) (.bool m2) (.slice B1 (Nt.digs n2).length k1) (.slice B2 (Nt.digs d2).length k2)
  obtain ⟨u0, u1, u2, -, -, -⟩ := qA.drew.three
  obtain ⟨v0, v1, v2, -, -, -⟩ := qB.drew.three
  have nv : ∀ {v : Value} {l : List Nat}, Nv w2 v l → Nv ((((((((w2.alloc (.cells #[.bool m2, .slice B1 (Nt.digs n2).length k1, .slice B2 (Nt.digs d2).length k2] 107)).setCell ⟨w.heap.size + 2, 0, none⟩ (.bool m1)).setCell ⟨w.heap.size + 2, 1, none⟩ (.slice A1 (Nt.digs n1).length c1)).setCell ⟨w.heap.size + 2, 2, none⟩ (.slice A2 (Nt.digs d1).length c2)).setCell ⟨w.heap.size + 3, 0, none⟩ (.bool m2)).setCell ⟨w.heap.size + 3, 1, none⟩ (.slice B1 (Nt.digs n2).length k1)).setCell ⟨w.heap.size + 3, 2, none⟩ (.slice B2 (Nt.digs d2).length k2)).drew) v l :=
    fun h => ((((h.below ((Below.refl _ w2).alloc (Nat.le_refl _) _)).apart bA _ _ _).apart pB _ _ _).drew)
  have bel := Below.drew (below_three (below_three HL2.out.bel (g := w.heap.size + 2) (by omega) (.bool m1) (.slice A1 (Nt.digs n1).length c1) (.slice A2 (Nt.digs d1).length c2)) (g := w.heap.size + 3) (by omega) (.bool m2) (.slice B1 (Nt.digs n2).length k1) (.slice B2 (Nt.digs d2).length k2))
  have al1 := (Below.refl _ w1).alloc (Nat.le_refl _) (.cells #[.bool m1, .slice A1 (Nt.digs n1).length c1, .slice A2 (Nt.digs d1).length c2] 107)
  have R1 := Lib.hid (nv ((HN1.out.below al1).below HB.out))
  have R2 := Lib.hid (nv ((HN2.out.below al1).below HB.out))
  have R3 := Lib.hid (nv HM1.out)
  have R4 := Lib.hid (nv HM2.out)
  have RB := Lib.hid bel
  clear nv bel al1 bA bB pA pB qA qB x0 x1 x2 y0 y1 y2 z0 z1 z2 f0 f1 f2 g0 g1 g2
  go_wp2_with fail
  refine bodyPost_ret (v := .tuple #[.agg #[.bool m1, .slice A1 (Nt.digs n1).length c1, .slice A2 (Nt.digs d1).length c2], .agg #[.bool m2, .slice B1 (Nt.digs n2).length k1, .slice B2 (Nt.digs d2).length k2], .int .i64 0]) (by simp [results, Tryz.results75, go_sem, u0, u1, u2, v0, v1, v2]) rfl ?_
  exact ⟨A1, c1, A2, c2, B1, k1, B2, k2, rfl, R1.out, R2.out, R3.out, R4.out, RB.out⟩
end Go.Proofs.YtigeipjkcidleaaGreatDoor
