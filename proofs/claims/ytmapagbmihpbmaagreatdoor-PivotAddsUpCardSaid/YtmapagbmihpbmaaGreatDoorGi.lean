/- The contract of exact's two, over a function that is handed to it. -/
import Derived.Test.YtmapagbmihpbmaaGreatDoorGh
import Derived.Test.YtmapagbmihpbmaaGreatDoorExR
import Derived.Deep.RegionHeld3
namespace Go.Proofs.YtmapagbmihpbmaaGreatDoor
open Go.RowKit

/-- What the function handed to two gives. -/
def FnRet (P : Bool → Nat → Prop) (d : Nat) (W : World) (e : Ending) (w' : World) : Prop :=
  ∃ m n A c A' c', e = .returned (.tuple #[.agg #[.bool m, .slice A (Nt.digs n).length c, .slice A' (Nt.digs d).length c'], .int .i64 0]) ∧ P m n ∧ Nv w' (.slice A (Nt.digs n).length c) (Nt.digs n) ∧ Nv w' (.slice A' (Nt.digs d).length c') (Nt.digs d) ∧ Below W.heap.size W w'
def OpRet (P : Bool → Nat → Prop) (d : Nat) (w : World) (e : Ending) (w' : World) : Prop :=
  ∃ (m : Bool) (n : Nat) (sn sd : ByteArray), P m n ∧ e = .returned (.tuple #[.agg #[.string sn, .string sd], .int .i64 0]) ∧ sn.data.toList = Nt.numT m n d ∧ sd.data.toList = Nt.denT n d ∧ Below w.heap.size w w'
structure Fits (n d : Nat) : Prop where
  s1 : (Nt.digs n).length ≤ 900000
  s2 : (Nt.digs d).length ≤ 900000
  f1 : (Lib.decDigits (n / Nat.gcd n d)).length ≤ 300
  f2 : (Lib.decDigits (d / Nat.gcd n d)).length ≤ 300

set_option maxRecDepth 100000 in
set_option maxHeartbeats 2000000 in
theorem two_Add (P : Bool → Nat → Prop) (d : Nat) (hd : d ≠ 0) (a1 a2 b1 b2 : ByteArray) (m1 : Bool) (n1 d1 : Nat) (m2 : Bool) (n2 d2 : Nat) (w : World) (h1 : a1.size ≤ 9223372036854775807) (h2 : a2.size ≤ 9223372036854775807) (h3 : b1.size ≤ 9223372036854775807) (h4 : b2.size ≤ 9223372036854775807)
    (ha : Nt.Rd a1.data.toList a2.data.toList m1 n1 d1) (hb : Nt.Rd b1.data.toList b2.data.toList m2 n2 d2) (htab : Lib.TabIs Tryz.prog w "internal/strconv.uint64pow10" .u64 Lib.pow10Tab)
    (hf : ∀ (W : World) (A1 : Option Addr) (c1 : Nat) (A2 : Option Addr) (c2 : Nat) (B1 : Option Addr) (k1 : Nat) (B2 : Option Addr) (k2 : Nat), Nv W (.slice A1 (Nt.digs n1).length c1) (Nt.digs n1) → Nv W (.slice A2 (Nt.digs d1).length c2) (Nt.digs d1) → Nv W (.slice B1 (Nt.digs n2).length k1) (Nt.digs n2) → Nv W (.slice B2 (Nt.digs d2).length k2) (Nt.digs d2) →
      Calls Tryz.prog 22 #[.agg #[.bool m1, .slice A1 (Nt.digs n1).length c1, .slice A2 (Nt.digs d1).length c2], .agg #[.bool m2, .slice B1 (Nt.digs n2).length k1, .slice B2 (Nt.digs d2).length k2]] W (FnRet P d W))
    (hP : ∀ m n, P m n → Fits n d) :
    Calls Tryz.prog 21 #[.agg #[.string a1, .string a2], .agg #[.string b1, .string b2], .func (.func 22) #[] #[]] w (OpRet P d w) := by
  have HBO := Lib.hid fun W => both_ok a1 a2 b1 b2 m1 n1 d1 m2 n2 d2 W h1 h2 h3 h4 ha hb
  have HF := Lib.hid hf
  have HP := Lib.hid hP
  have HD := Lib.hid hd
  have HT := Lib.hid (show ∀ W, Below w.heap.size w W → Lib.TabIs Tryz.prog W "internal/strconv.uint64pow10" .u64 Lib.pow10Tab from Lib.tabBelow_of_tabIs htab)
  clear ha hb h1 h2 h3 h4 hf hP hd htab
  have HL0 := Lib.hid ((((Loc.start w).alloc' rfl 24 #[.string a1, .string a2]).alloc' (g := w.heap.size + 1) (by simp) 24 #[.string b1, .string b2]).alloc' (g := w.heap.size + 2) (by simp) 24 #[.string ⟨#[]⟩, .string ⟨#[]⟩])
  go_enter Tryz.func21, Tryz.ntmps21
  go_wp2_with (first
    | (go_at_call 46; (with_reducible refine (HBO.out _).mono ?_); rintro e w1 ⟨A1, c1, A2, c2, B1, k1, B2, k2, rfl, hn1, hn2, hm1, hm2, hb⟩; have HL1 := Lib.hid (((HL0.out.step hb).alloc 67 #[.bool m1, .slice A1 (Nt.digs n1).length c1, .slice A2 (Nt.digs d1).length c2]).alloc 67 #[.bool m2, .slice B1 (Nt.digs n2).length k1, .slice B2 (Nt.digs d2).length k2]); have HAL := Lib.hid (((Below.refl _ w1).alloc (Nat.le_refl _) (.cells #[.bool m1, .slice A1 (Nt.digs n1).length c1, .slice A2 (Nt.digs d1).length c2] 67)).alloc (by simp) (.cells #[.bool m2, .slice B1 (Nt.digs n2).length k1, .slice B2 (Nt.digs d2).length k2] 67)); have HN1 := Lib.hid hn1; have HN2 := Lib.hid hn2; have HM1 := Lib.hid hm1; have HM2 := Lib.hid hm2; clear hn1 hn2 hm1 hm2 hb)
    | ((with_reducible refine (HF.out _ _ _ _ _ _ _ _ _ (HN1.out.below HAL.out) (HN2.out.below HAL.out) (HM1.out.below HAL.out) (HM2.out.below HAL.out)).mono ?_); rintro e w2 ⟨m, n, A, c, A', c', rfl, hp, hr1, hr2, hb⟩; have HL2 := Lib.hid ((HL1.out.step hb).alloc 67 #[.bool m, .slice A (Nt.digs n).length c, .slice A' (Nt.digs d).length c']); have HPP := Lib.hid hp; have HR1 := Lib.hid (hr1.below ((Below.refl _ w2).alloc (Nat.le_refl _) (.cells #[.bool m, .slice A (Nt.digs n).length c, .slice A' (Nt.digs d).length c'] 67))); have HR2 := Lib.hid (hr2.below ((Below.refl _ w2).alloc (Nat.le_refl _) (.cells #[.bool m, .slice A (Nt.digs n).length c, .slice A' (Nt.digs d).length c'] 67))); clear hp hr1 hr2 hb)
    | (go_at_call 47; (with_reducible refine (write_any _ m n d _ ⟨_, _, rfl, HR1.out, HR2.out⟩ HD.out (HP.out m n HPP.out).s1 (HP.out m n HPP.out).s2 (HP.out m n HPP.out).f1 (HP.out m n HPP.out).f2 (HT.out _ HL2.out.bel)).mono ?_); rintro e w3 ⟨hb, sn, sd, rfl, e1, e2⟩; have hl := HL2.out.step hb; have HL3 := Lib.hid hl; have bl := hl.blk (g := w.heap.size + 2) (t := 24) (cs := #[.string ⟨#[]⟩, .string ⟨#[]⟩]) (by simp); have HBL := Lib.hid bl; obtain ⟨x0, x1, f0, f1⟩ := bl.two; have E1 := Lib.hid e1; have E2 := Lib.hid e2; clear hl bl hb e1 e2))
  obtain ⟨-, q0, q1⟩ := HBL.out.two_set (.string sn) (.string sd)
  refine bodyPost_ret (v := .tuple #[.agg #[.string sn, .string sd], .int .i64 0]) (by simp [results, Tryz.results21, go_sem, q0, q1]) rfl ?_
  exact ⟨m, n, sn, sd, HPP.out, rfl, E1.out, E2.out, below_two HL3.out.bel (by omega) _ _⟩
set_option maxRecDepth 100000 in
set_option maxHeartbeats 2000000 in
theorem two_Div (P : Bool → Nat → Prop) (d : Nat) (hd : d ≠ 0) (a1 a2 b1 b2 : ByteArray) (m1 : Bool) (n1 d1 : Nat) (m2 : Bool) (n2 d2 : Nat) (w : World) (h1 : a1.size ≤ 9223372036854775807) (h2 : a2.size ≤ 9223372036854775807) (h3 : b1.size ≤ 9223372036854775807) (h4 : b2.size ≤ 9223372036854775807)
    (ha : Nt.Rd a1.data.toList a2.data.toList m1 n1 d1) (hb : Nt.Rd b1.data.toList b2.data.toList m2 n2 d2) (htab : Lib.TabIs Tryz.prog w "internal/strconv.uint64pow10" .u64 Lib.pow10Tab)
    (hf : ∀ (W : World) (A1 : Option Addr) (c1 : Nat) (A2 : Option Addr) (c2 : Nat) (B1 : Option Addr) (k1 : Nat) (B2 : Option Addr) (k2 : Nat), Nv W (.slice A1 (Nt.digs n1).length c1) (Nt.digs n1) → Nv W (.slice A2 (Nt.digs d1).length c2) (Nt.digs d1) → Nv W (.slice B1 (Nt.digs n2).length k1) (Nt.digs n2) → Nv W (.slice B2 (Nt.digs d2).length k2) (Nt.digs d2) →
      Calls Tryz.prog 74 #[.agg #[.bool m1, .slice A1 (Nt.digs n1).length c1, .slice A2 (Nt.digs d1).length c2], .agg #[.bool m2, .slice B1 (Nt.digs n2).length k1, .slice B2 (Nt.digs d2).length k2]] W (FnRet P d W))
    (hP : ∀ m n, P m n → Fits n d) :
    Calls Tryz.prog 21 #[.agg #[.string a1, .string a2], .agg #[.string b1, .string b2], .func (.func 74) #[] #[]] w (OpRet P d w) := by
  have HBO := Lib.hid fun W => both_ok a1 a2 b1 b2 m1 n1 d1 m2 n2 d2 W h1 h2 h3 h4 ha hb
  have HF := Lib.hid hf
  have HP := Lib.hid hP
  have HD := Lib.hid hd
  have HT := Lib.hid (show ∀ W, Below w.heap.size w W → Lib.TabIs Tryz.prog W "internal/strconv.uint64pow10" .u64 Lib.pow10Tab from Lib.tabBelow_of_tabIs htab)
  clear ha hb h1 h2 h3 h4 hf hP hd htab
  have HL0 := Lib.hid ((((Loc.start w).alloc' rfl 24 #[.string a1, .string a2]).alloc' (g := w.heap.size + 1) (by simp) 24 #[.string b1, .string b2]).alloc' (g := w.heap.size + 2) (by simp) 24 #[.string ⟨#[]⟩, .string ⟨#[]⟩])
  go_enter Tryz.func21, Tryz.ntmps21
  go_wp2_with (first
    | (go_at_call 46; (with_reducible refine (HBO.out _).mono ?_); rintro e w1 ⟨A1, c1, A2, c2, B1, k1, B2, k2, rfl, hn1, hn2, hm1, hm2, hb⟩; have HL1 := Lib.hid (((HL0.out.step hb).alloc 67 #[.bool m1, .slice A1 (Nt.digs n1).length c1, .slice A2 (Nt.digs d1).length c2]).alloc 67 #[.bool m2, .slice B1 (Nt.digs n2).length k1, .slice B2 (Nt.digs d2).length k2]); have HAL := Lib.hid (((Below.refl _ w1).alloc (Nat.le_refl _) (.cells #[.bool m1, .slice A1 (Nt.digs n1).length c1, .slice A2 (Nt.digs d1).length c2] 67)).alloc (by simp) (.cells #[.bool m2, .slice B1 (Nt.digs n2).length k1, .slice B2 (Nt.digs d2).length k2] 67)); have HN1 := Lib.hid hn1; have HN2 := Lib.hid hn2; have HM1 := Lib.hid hm1; have HM2 := Lib.hid hm2; clear hn1 hn2 hm1 hm2 hb)
    | ((with_reducible refine (HF.out _ _ _ _ _ _ _ _ _ (HN1.out.below HAL.out) (HN2.out.below HAL.out) (HM1.out.below HAL.out) (HM2.out.below HAL.out)).mono ?_); rintro e w2 ⟨m, n, A, c, A', c', rfl, hp, hr1, hr2, hb⟩; have HL2 := Lib.hid ((HL1.out.step hb).alloc 67 #[.bool m, .slice A (Nt.digs n).length c, .slice A' (Nt.digs d).length c']); have HPP := Lib.hid hp; have HR1 := Lib.hid (hr1.below ((Below.refl _ w2).alloc (Nat.le_refl _) (.cells #[.bool m, .slice A (Nt.digs n).length c, .slice A' (Nt.digs d).length c'] 67))); have HR2 := Lib.hid (hr2.below ((Below.refl _ w2).alloc (Nat.le_refl _) (.cells #[.bool m, .slice A (Nt.digs n).length c, .slice A' (Nt.digs d).length c'] 67))); clear hp hr1 hr2 hb)
    | (go_at_call 47; (with_reducible refine (write_any _ m n d _ ⟨_, _, rfl, HR1.out, HR2.out⟩ HD.out (HP.out m n HPP.out).s1 (HP.out m n HPP.out).s2 (HP.out m n HPP.out).f1 (HP.out m n HPP.out).f2 (HT.out _ HL2.out.bel)).mono ?_); rintro e w3 ⟨hb, sn, sd, rfl, e1, e2⟩; have hl := HL2.out.step hb; have HL3 := Lib.hid hl; have bl := hl.blk (g := w.heap.size + 2) (t := 24) (cs := #[.string ⟨#[]⟩, .string ⟨#[]⟩]) (by simp); have HBL := Lib.hid bl; obtain ⟨x0, x1, f0, f1⟩ := bl.two; have E1 := Lib.hid e1; have E2 := Lib.hid e2; clear hl bl hb e1 e2))
  obtain ⟨-, q0, q1⟩ := HBL.out.two_set (.string sn) (.string sd)
  refine bodyPost_ret (v := .tuple #[.agg #[.string sn, .string sd], .int .i64 0]) (by simp [results, Tryz.results21, go_sem, q0, q1]) rfl ?_
  exact ⟨m, n, sn, sd, HPP.out, rfl, E1.out, E2.out, below_two HL3.out.bel (by omega) _ _⟩
end Go.Proofs.YtmapagbmihpbmaaGreatDoor

namespace Go.Proofs.YtmapagbmihpbmaaGreatDoor
open Go.RowKit

namespace Nt
/-- A number with its sign. -/
def zi (m : Bool) (n : Nat) : Int := if m then -(n : Int) else n
end Nt
theorem times_n (va vb : Value) (a b : Nat) (w : World) (ha : Nv w va (Nt.digs a)) (hb : Nv w vb (Nt.digs b)) (sa : (Nt.digs a).length ≤ 1000000) (sb : (Nt.digs b).length ≤ 1000000) :
    Calls Tryz.prog 48 #[va, vb] w fun e w' => ∃ v, e = .returned v ∧ Nv w' v (Nt.digs (a * b)) ∧ Below w.heap.size w w' := by
  have := times_any va vb _ _ w ha hb (Nt.digs_canon a) (Nt.digs_canon b) sa sb
  rwa [Nt.val_digs, Nt.val_digs] at this
theorem plus_n (va vb : Value) (a b : Nat) (w : World) (ha : Nv w va (Nt.digs a)) (hb : Nv w vb (Nt.digs b)) (sa : (Nt.digs a).length ≤ 1000000) (sb : (Nt.digs b).length ≤ 1000000) :
    Calls Tryz.prog 49 #[va, vb] w fun e w' => ∃ v, e = .returned v ∧ Nv w' v (Nt.digs (a + b)) ∧ Below w.heap.size w w' := by
  have := plus_any va vb _ _ w ha hb (Nt.digs_canon a) (Nt.digs_canon b) sa sb
  rwa [Nt.val_digs, Nt.val_digs] at this
theorem minus_n (va vb : Value) (a b : Nat) (w : World) (ha : Nv w va (Nt.digs a)) (hb : Nv w vb (Nt.digs b)) (hle : b ≤ a) :
    Calls Tryz.prog 51 #[va, vb] w fun e w' => ∃ v, e = .returned v ∧ Nv w' v (Nt.digs (a - b)) ∧ Below w.heap.size w w' := by
  have := minus_any va vb _ _ w ha hb (Nt.digs_canon a) (Nt.digs_canon b) (by rw [Nt.val_digs, Nt.val_digs]; exact hle)
  rwa [Nt.val_digs, Nt.val_digs] at this
theorem compare_n (va vb : Value) (a b : Nat) (w : World) (ha : Nv w va (Nt.digs a)) (hb : Nv w vb (Nt.digs b)) :
    Calls Tryz.prog 50 #[va, vb] w (CmpRet a b w) := by
  have := compare_any va vb _ _ w ha hb (Nt.digs_canon a) (Nt.digs_canon b)
  rwa [Nt.val_digs, Nt.val_digs] at this

def SumRet (m1 : Bool) (n1 d1 : Nat) (m2 : Bool) (n2 d2 : Nat) (w : World) (e : Ending) (w' : World) : Prop :=
  Below w.heap.size w w' ∧ ∃ r m n, e = .returned r ∧ Nm w' r m n (d1 * d2) ∧ Nt.zi m n = Nt.zi m1 (n1 * d2) + Nt.zi m2 (n2 * d1) ∧ n ≤ n1 * d2 + n2 * d1

/-- What stands in the course of sum: two numbers in boxes, the result's box. -/
def SP (w : World) (a0 a1 a2 b0 b1 b2 : Value) (W : World) : Prop := Blk W w.heap.size 67 #[a0, a1, a2] ∧ Blk W (w.heap.size + 1) 67 #[b0, b1, b2] ∧ Blk W (w.heap.size + 2) 67 #[.bool false, .slice none 0 0, .slice none 0 0] ∧ Below w.heap.size w W
section
variable {w W W' : World} {a0 a1 a2 b0 b1 b2 : Value}
theorem SP.step (h : SP w a0 a1 a2 b0 b1 b2 W) (hb : Below W.heap.size W W') : SP w a0 a1 a2 b0 b1 b2 W' := ⟨h.1.later hb, h.2.1.later hb, h.2.2.1.later hb, h.2.2.2.trans (hb.mono h.2.2.2.size)⟩
theorem SP.drew (h : SP w a0 a1 a2 b0 b1 b2 W) : SP w a0 a1 a2 b0 b1 b2 W.drew := ⟨h.1.drew, h.2.1.drew, h.2.2.1.drew, Below.drew h.2.2.2⟩
theorem SP.drewN (h : SP w a0 a1 a2 b0 b1 b2 W) (n : Nat) : SP w a0 a1 a2 b0 b1 b2 (W.drewN n) := ⟨h.1.drewN n, h.2.1.drewN n, h.2.2.1.drewN n, ⟨h.2.2.2.os, h.2.2.2.tape, h.2.2.2.output, h.2.2.2.size, h.2.2.2.block⟩⟩
theorem SP.cells (h : SP w a0 a1 a2 b0 b1 b2 W) : W.cell? ⟨w.heap.size, 0, none⟩ = some a0 ∧ W.cell? ⟨w.heap.size, 1, none⟩ = some a1 ∧ W.cell? ⟨w.heap.size, 2, none⟩ = some a2 ∧ W.cell? ⟨w.heap.size + 1, 0, none⟩ = some b0 ∧ W.cell? ⟨w.heap.size + 1, 1, none⟩ = some b1 ∧ W.cell? ⟨w.heap.size + 1, 2, none⟩ = some b2 :=
  ⟨h.1.cell 0, h.1.cell 1, h.1.cell 2, h.2.1.cell 0, h.2.1.cell 1, h.2.1.cell 2⟩
theorem SP.bel (h : SP w a0 a1 a2 b0 b1 b2 W) : Below w.heap.size w W := h.2.2.2
theorem SP.ld (h : SP w a0 a1 a2 b0 b1 b2 W) : W.cell? ⟨w.heap.size, 1, none⟩ = some a1 ∧ W.cell? ⟨w.heap.size, 2, none⟩ = some a2 ∧ W.cell? ⟨w.heap.size + 1, 1, none⟩ = some b1 ∧ W.cell? ⟨w.heap.size + 1, 2, none⟩ = some b2 :=
  ⟨h.1.cell 1, h.1.cell 2, h.2.1.cell 1, h.2.1.cell 2⟩
theorem SP.new (w : World) (a0 a1 a2 b0 b1 b2 : Value) : SP w a0 a1 a2 b0 b1 b2 (((w.alloc (.cells #[a0, a1, a2] 67)).alloc (.cells #[b0, b1, b2] 67)).alloc (.cells #[.bool false, .slice none 0 0, .slice none 0 0] 67)) := by
  refine ⟨((Blk.new w _ _).alloc _).alloc _, ?_, ?_, (((Below.refl _ w).alloc (Nat.le_refl _) _).alloc (by simp) _).alloc (by simp; omega) _⟩
  · have := (Blk.new (w.alloc (.cells #[a0, a1, a2] 67)) 67 #[b0, b1, b2]).alloc (.cells #[.bool false, .slice none 0 0, .slice none 0 0] 67)
    rw [World.size_alloc] at this
    exact this
  · have := Blk.new ((w.alloc (.cells #[a0, a1, a2] 67)).alloc (.cells #[b0, b1, b2] 67)) 67 #[.bool false, .slice none 0 0, .slice none 0 0]
    rw [World.size_alloc, World.size_alloc] at this
    exact this
end
theorem digs_mul (a b k : Nat) (ha : (Nt.digs a).length ≤ k) (hb : (Nt.digs b).length ≤ k) : (Nt.digs (a * b)).length ≤ 2 * k := by
  have h1 := Nt.val_lt (Nt.digs_canon a).1
  have h2 := Nt.val_lt (Nt.digs_canon b).1
  rw [Nt.val_digs] at h1 h2
  have h0 : 0 < Nt.B := by decide
  have e1 : Nt.B ^ (Nt.digs a).length ≤ Nt.B ^ k := Nat.pow_le_pow_right h0 ha
  have e2 : Nt.B ^ (Nt.digs b).length ≤ Nt.B ^ k := Nat.pow_le_pow_right h0 hb
  refine Nt.digs_len ?_
  rw [Nat.two_mul, Nat.pow_add]
  exact Nat.mul_lt_mul'' (Nat.lt_of_lt_of_le h1 e1) (Nat.lt_of_lt_of_le h2 e2)

set_option maxRecDepth 100000 in
set_option maxHeartbeats 4000000 in
theorem sum_any (x y : Value) (m1 : Bool) (n1 d1 : Nat) (m2 : Bool) (n2 d2 : Nat) (w : World) (hx : Nm w x m1 n1 d1) (hy : Nm w y m2 n2 d2)
    (s1 : (Nt.digs n1).length ≤ 400000) (s2 : (Nt.digs d1).length ≤ 400000) (s3 : (Nt.digs n2).length ≤ 400000) (s4 : (Nt.digs d2).length ≤ 400000) :
    Calls Tryz.prog 23 #[x, y] w (SumRet m1 n1 d1 m2 n2 d2 w) := by
  obtain ⟨a1, a2, rfl, ha1, ha2⟩ := hx.ex
  obtain ⟨b1, b2, rfl, hb1, hb2⟩ := hy.ex
  clear hx hy
  have HT1 := Lib.hid fun (W : World) (hb : Below w.heap.size w W) => times_n a1 b2 n1 d2 W (ha1.below hb) (hb2.below hb) (by omega) (by omega)
  have HT2 := Lib.hid fun (W : World) (hb : Below w.heap.size w W) => times_n b1 a2 n2 d1 W (hb1.below hb) (ha2.below hb) (by omega) (by omega)
  have HT3 := Lib.hid fun (W : World) (hb : Below w.heap.size w W) => times_n a2 b2 d1 d2 W (ha2.below hb) (hb2.below hb) (by omega) (by omega)
  have HPL := Lib.hid fun (W : World) (vp vq : Value) (h1 : Nv W vp (Nt.digs (n1 * d2))) (h2 : Nv W vq (Nt.digs (n2 * d1))) => plus_n vp vq _ _ W h1 h2 (Nat.le_trans (digs_mul _ _ _ s1 s4) (by omega)) (Nat.le_trans (digs_mul _ _ _ s3 s2) (by omega))
  obtain ⟨A1, k1, rfl, -, -, -, -⟩ := ha1.ex
  obtain ⟨A2, k2, rfl, -, -, -, -⟩ := ha2.ex
  obtain ⟨B1, l1, rfl, -, -, -, -⟩ := hb1.ex
  obtain ⟨B2, l2, rfl, -, -, -, -⟩ := hb2.ex
  clear s1 s2 s3 s4 ha1 ha2 hb1 hb2
  have HS0 := Lib.hid (SP.new w (.bool m1) (.slice A1 (Nt.digs n1).length k1) (.slice A2 (Nt.digs d1).length k2) (.bool m2) (.slice B1 (Nt.digs n2).length l1) (.slice B2 (Nt.digs d2).length l2))
  go_enter Tryz.func23, Tryz.ntmps23
  go_upto_region 1 with fail
  go_region_held3 (fun w' => w'.cell? ⟨w.heap.size, 1, none⟩ = some (.slice A1 (Nt.digs n1).length k1) ∧ w'.cell? ⟨w.heap.size, 2, none⟩ = some (.slice A2 (Nt.digs d1).length k2) ∧ w'.cell? ⟨w.heap.size + 1, 1, none⟩ = some (.slice B1 (Nt.digs n2).length l1) ∧ w'.cell? ⟨w.heap.size + 1, 2, none⟩ = some (.slice B2 (Nt.digs d2).length l2)) (first | (with_reducible exact HS2.out.ld) | (with_reducible exact HS1.out.ld) | (with_reducible exact HS0.out.drew.ld) | (with_reducible exact HS0.out.ld) | exact HS0.out.drew.ld | fail) (first | (go_at_call 48; first | ((with_reducible refine (HT1.out _ HS0.out.drew.bel).mono ?_); rintro e w1 ⟨vp, rfl, hp, hb⟩; have hS1 := HS0.out.drew.step hb; obtain ⟨s10, s11, s12, s13, s14, s15⟩ := hS1.cells; have HS1 := Lib.hid hS1; have HP1 := Lib.hid hp; clear hp hb hS1) | ((with_reducible refine (HT2.out _ HS1.out.bel).mono ?_); rintro e w2 ⟨vq, rfl, hq, hb⟩; have hS2 := HS1.out.step hb; obtain ⟨s20, s21, s22, s23, s24, s25⟩ := hS2.cells; have HS2 := Lib.hid hS2; have HP2 := Lib.hid (HP1.out.below hb); have HQ2 := Lib.hid hq; clear hq hb hS2) | fail))
  cases m1 <;> cases m2
  · go_upto_region 4 with (go_at_call 48; (with_reducible refine (HT3.out _ HS2.out.bel).mono ?_); rintro e w3 ⟨vd, rfl, hd, hb⟩; have hS3 := HS2.out.step hb; have hP3 := HP2.out.below hb; have hQ3 := HQ2.out.below hb; have HS3 := Lib.hid hS3; have HP3 := Lib.hid hP3; have HQ3 := Lib.hid hQ3; obtain ⟨A3, c3, rfl, -, -, -, -⟩ := id hd.ex; have HD3 := Lib.hid hd; clear s10 s11 s12 s13 s14 s15 s20 s21 s22 s23 s24 s25 hS3 hP3 hQ3 hb hd; obtain ⟨s30, s31, s32, s33, s34, s35⟩ := HS3.out.cells)
    go_region_held3 (fun w' => w'.cell? ⟨w.heap.size, 0, none⟩ = some (.bool false)) (first | assumption | (with_reducible exact HS4.out.cells.1) | (with_reducible exact HS4.out.drew.cells.1) | (with_reducible exact HS3.out.cells.1) | (with_reducible exact HS3.out.drew.cells.1) | exact (HS4.out.1.three_far (by omega) _ _ _).cell 0) ((go_at_call 49; (with_reducible refine (HPL.out _ _ _ HP3.out.drew HQ3.out.drew).mono ?_); rintro e w4 ⟨vr, rfl, hr, hb⟩; obtain ⟨A4, c4, rfl, -, -, -, -⟩ := id hr.ex; have hS4 := HS3.out.drew.step hb; have hD4 := HD3.out.drew.below hb; have HS4 := Lib.hid hS4; have HR4 := Lib.hid hr; have HD4 := Lib.hid hD4; clear s30 s31 s32 s33 s34 s35 hb hr hS4 hD4; obtain ⟨s40, s41, s42, s43, s44, s45⟩ := HS4.out.cells; obtain ⟨t0, t1, t2, u0, u1, u2⟩ := HS4.out.2.2.1.three))
    obtain ⟨-, q0, q1, q2⟩ := HS4.out.2.2.1.three_set (.bool false) (.slice A4 (Nt.digs (n1 * d2 + n2 * d1)).length c4) (.slice A3 (Nt.digs (d1 * d2)).length c3)
    go_wp2_with fail
    refine bodyPost_ret (v := .agg #[.bool false, (.slice A4 (Nt.digs (n1 * d2 + n2 * d1)).length c4), (.slice A3 (Nt.digs (d1 * d2)).length c3)]) (by simp [results, Tryz.results23, go_sem, q0, q1, q2]) rfl ?_
    exact ⟨below_three HS4.out.bel (by omega) _ _ _, _, false, _, rfl, ⟨_, _, rfl, HR4.out.apart HS4.out.2.2.1 _ _ _, HD4.out.apart HS4.out.2.2.1 _ _ _⟩, by simp [Nt.zi], by omega⟩
  · go_wp2_with (first | (go_at_call 48; (with_reducible refine (HT3.out _ HS2.out.bel).mono ?_); rintro e w3 ⟨vd, rfl, hd, hb⟩; have hS3 := HS2.out.step hb; have hP3 := HP2.out.below hb; have hQ3 := HQ2.out.below hb; have HS3 := Lib.hid hS3; have HP3 := Lib.hid hP3; have HQ3 := Lib.hid hQ3; obtain ⟨A3, c3, rfl, -, -, -, -⟩ := id hd.ex; have HD3 := Lib.hid hd; clear s10 s11 s12 s13 s14 s15 s20 s21 s22 s23 s24 s25 hS3 hP3 hQ3 hb hd; obtain ⟨s30, s31, s32, s33, s34, s35⟩ := HS3.out.cells) | (go_at_call 50; (with_reducible refine (compare_n _ _ _ _ _ HP3.out HQ3.out).mono ?_); rintro e w5 ⟨r, k, rfl, hc, hr1, hr2, rfl⟩; have HC := Lib.hid hc; clear hc))
    · have hle : n2 * d1 ≤ n1 * d2 := by rcases HC.out with ⟨h1, h2⟩ | ⟨h1, h2⟩ | ⟨h1, h2⟩ <;> omega
      have HMA := Lib.hid fun (W : World) (vp vq : Value) (h1 : Nv W vp (Nt.digs (n1 * d2))) (h2 : Nv W vq (Nt.digs (n2 * d1))) => minus_n vp vq _ _ W h1 h2 hle
      have HLE := Lib.hid hle
      clear hle
      go_region_held3 (fun w' => w'.cell? ⟨w.heap.size, 0, none⟩ = some (.bool false)) (first | assumption | (with_reducible exact HS4.out.cells.1) | (with_reducible exact HS4.out.drew.cells.1) | (with_reducible exact (HS3.out.drewN k).cells.1) | (with_reducible exact (HS3.out.drewN (k + 1)).cells.1) | exact (HS4.out.1.three_far (by omega) _ _ _).cell 0) ((go_at_call 51; (with_reducible refine (HMA.out _ _ _ (HP3.out.drewN (k + 1)) (HQ3.out.drewN (k + 1))).mono ?_); rintro e w4 ⟨vr, rfl, hr, hb⟩; obtain ⟨A4, c4, rfl, -, -, -, -⟩ := id hr.ex; have hS4 := (HS3.out.drewN (k + 1)).step hb; have hD4 := (HD3.out.drewN (k + 1)).below hb; have HS4 := Lib.hid hS4; have HR4 := Lib.hid hr; have HD4 := Lib.hid hD4; clear s30 s31 s32 s33 s34 s35 hb hr hS4 hD4; obtain ⟨s40, s41, s42, s43, s44, s45⟩ := HS4.out.cells; obtain ⟨t0, t1, t2, u0, u1, u2⟩ := HS4.out.2.2.1.three))
      have hle := HLE.out
      obtain ⟨-, q0, q1, q2⟩ := HS4.out.2.2.1.three_set (.bool false) (.slice A4 (Nt.digs (n1 * d2 - n2 * d1)).length c4) (.slice A3 (Nt.digs (d1 * d2)).length c3)
      go_wp2_with fail
      refine bodyPost_ret (v := .agg #[.bool false, (.slice A4 (Nt.digs (n1 * d2 - n2 * d1)).length c4), (.slice A3 (Nt.digs (d1 * d2)).length c3)]) (by simp [results, Tryz.results23, go_sem, q0, q1, q2]) rfl ?_
      exact ⟨below_three HS4.out.bel (by omega) _ _ _, _, false, _, rfl, ⟨_, _, rfl, HR4.out.apart HS4.out.2.2.1 _ _ _, HD4.out.apart HS4.out.2.2.1 _ _ _⟩, by simp [Nt.zi]; omega, by omega⟩
    · have hle : n1 * d2 ≤ n2 * d1 := by rcases HC.out with ⟨h1, h2⟩ | ⟨h1, h2⟩ | ⟨h1, h2⟩ <;> omega
      have HMB := Lib.hid fun (W : World) (vp vq : Value) (h1 : Nv W vp (Nt.digs (n2 * d1))) (h2 : Nv W vq (Nt.digs (n1 * d2))) => minus_n vp vq _ _ W h1 h2 hle
      have HLE := Lib.hid hle
      clear hle
      go_region_held3 (fun w' => w'.cell? ⟨w.heap.size + 1, 0, none⟩ = some (.bool true)) (first | assumption | (with_reducible exact HS4.out.cells.2.2.2.1) | (with_reducible exact HS4.out.drew.cells.2.2.2.1) | (with_reducible exact (HS3.out.drewN k).cells.2.2.2.1) | (with_reducible exact (HS3.out.drewN (k + 1)).cells.2.2.2.1) | exact (HS4.out.2.1.three_far (by omega) _ _ _).cell 0) ((go_at_call 51; (with_reducible refine (HMB.out _ _ _ (HQ3.out.drewN (k + 1)) (HP3.out.drewN (k + 1))).mono ?_); rintro e w4 ⟨vr, rfl, hr, hb⟩; obtain ⟨A4, c4, rfl, -, -, -, -⟩ := id hr.ex; have hS4 := (HS3.out.drewN (k + 1)).step hb; have hD4 := (HD3.out.drewN (k + 1)).below hb; have HS4 := Lib.hid hS4; have HR4 := Lib.hid hr; have HD4 := Lib.hid hD4; clear s30 s31 s32 s33 s34 s35 hb hr hS4 hD4; obtain ⟨s40, s41, s42, s43, s44, s45⟩ := HS4.out.cells; obtain ⟨t0, t1, t2, u0, u1, u2⟩ := HS4.out.2.2.1.three))
      have hle := HLE.out
      obtain ⟨-, q0, q1, q2⟩ := HS4.out.2.2.1.three_set (.bool true) (.slice A4 (Nt.digs (n2 * d1 - n1 * d2)).length c4) (.slice A3 (Nt.digs (d1 * d2)).length c3)
      go_wp2_with fail
      refine bodyPost_ret (v := .agg #[.bool true, (.slice A4 (Nt.digs (n2 * d1 - n1 * d2)).length c4), (.slice A3 (Nt.digs (d1 * d2)).length c3)]) (by simp [results, Tryz.results23, go_sem, q0, q1, q2]) rfl ?_
      exact ⟨below_three HS4.out.bel (by omega) _ _ _, _, true, _, rfl, ⟨_, _, rfl, HR4.out.apart HS4.out.2.2.1 _ _ _, HD4.out.apart HS4.out.2.2.1 _ _ _⟩, by simp [Nt.zi]; omega, by omega⟩
  · go_wp2_with (first | (go_at_call 48; (with_reducible refine (HT3.out _ HS2.out.bel).mono ?_); rintro e w3 ⟨vd, rfl, hd, hb⟩; have hS3 := HS2.out.step hb; have hP3 := HP2.out.below hb; have hQ3 := HQ2.out.below hb; have HS3 := Lib.hid hS3; have HP3 := Lib.hid hP3; have HQ3 := Lib.hid hQ3; obtain ⟨A3, c3, rfl, -, -, -, -⟩ := id hd.ex; have HD3 := Lib.hid hd; clear s10 s11 s12 s13 s14 s15 s20 s21 s22 s23 s24 s25 hS3 hP3 hQ3 hb hd; obtain ⟨s30, s31, s32, s33, s34, s35⟩ := HS3.out.cells) | (go_at_call 50; (with_reducible refine (compare_n _ _ _ _ _ HP3.out HQ3.out).mono ?_); rintro e w5 ⟨r, k, rfl, hc, hr1, hr2, rfl⟩; have HC := Lib.hid hc; clear hc))
    · have hle : n2 * d1 ≤ n1 * d2 := by rcases HC.out with ⟨h1, h2⟩ | ⟨h1, h2⟩ | ⟨h1, h2⟩ <;> omega
      have HMA := Lib.hid fun (W : World) (vp vq : Value) (h1 : Nv W vp (Nt.digs (n1 * d2))) (h2 : Nv W vq (Nt.digs (n2 * d1))) => minus_n vp vq _ _ W h1 h2 hle
      have HLE := Lib.hid hle
      clear hle
      go_region_held3 (fun w' => w'.cell? ⟨w.heap.size, 0, none⟩ = some (.bool true)) (first | assumption | (with_reducible exact HS4.out.cells.1) | (with_reducible exact HS4.out.drew.cells.1) | (with_reducible exact (HS3.out.drewN k).cells.1) | (with_reducible exact (HS3.out.drewN (k + 1)).cells.1) | exact (HS4.out.1.three_far (by omega) _ _ _).cell 0) ((go_at_call 51; (with_reducible refine (HMA.out _ _ _ (HP3.out.drewN (k + 1)) (HQ3.out.drewN (k + 1))).mono ?_); rintro e w4 ⟨vr, rfl, hr, hb⟩; obtain ⟨A4, c4, rfl, -, -, -, -⟩ := id hr.ex; have hS4 := (HS3.out.drewN (k + 1)).step hb; have hD4 := (HD3.out.drewN (k + 1)).below hb; have HS4 := Lib.hid hS4; have HR4 := Lib.hid hr; have HD4 := Lib.hid hD4; clear s30 s31 s32 s33 s34 s35 hb hr hS4 hD4; obtain ⟨s40, s41, s42, s43, s44, s45⟩ := HS4.out.cells; obtain ⟨t0, t1, t2, u0, u1, u2⟩ := HS4.out.2.2.1.three))
      have hle := HLE.out
      obtain ⟨-, q0, q1, q2⟩ := HS4.out.2.2.1.three_set (.bool true) (.slice A4 (Nt.digs (n1 * d2 - n2 * d1)).length c4) (.slice A3 (Nt.digs (d1 * d2)).length c3)
      go_wp2_with fail
      refine bodyPost_ret (v := .agg #[.bool true, (.slice A4 (Nt.digs (n1 * d2 - n2 * d1)).length c4), (.slice A3 (Nt.digs (d1 * d2)).length c3)]) (by simp [results, Tryz.results23, go_sem, q0, q1, q2]) rfl ?_
      exact ⟨below_three HS4.out.bel (by omega) _ _ _, _, true, _, rfl, ⟨_, _, rfl, HR4.out.apart HS4.out.2.2.1 _ _ _, HD4.out.apart HS4.out.2.2.1 _ _ _⟩, by simp [Nt.zi]; omega, by omega⟩
    · have hle : n1 * d2 ≤ n2 * d1 := by rcases HC.out with ⟨h1, h2⟩ | ⟨h1, h2⟩ | ⟨h1, h2⟩ <;> omega
      have HMB := Lib.hid fun (W : World) (vp vq : Value) (h1 : Nv W vp (Nt.digs (n2 * d1))) (h2 : Nv W vq (Nt.digs (n1 * d2))) => minus_n vp vq _ _ W h1 h2 hle
      have HLE := Lib.hid hle
      clear hle
      go_region_held3 (fun w' => w'.cell? ⟨w.heap.size + 1, 0, none⟩ = some (.bool false)) (first | assumption | (with_reducible exact HS4.out.cells.2.2.2.1) | (with_reducible exact HS4.out.drew.cells.2.2.2.1) | (with_reducible exact (HS3.out.drewN k).cells.2.2.2.1) | (with_reducible exact (HS3.out.drewN (k + 1)).cells.2.2.2.1) | exact (HS4.out.2.1.three_far (by omega) _ _ _).cell 0) ((go_at_call 51; (with_reducible refine (HMB.out _ _ _ (HQ3.out.drewN (k + 1)) (HP3.out.drewN (k + 1))).mono ?_); rintro e w4 ⟨vr, rfl, hr, hb⟩; obtain ⟨A4, c4, rfl, -, -, -, -⟩ := id hr.ex; have hS4 := (HS3.out.drewN (k + 1)).step hb; have hD4 := (HD3.out.drewN (k + 1)).below hb; have HS4 := Lib.hid hS4; have HR4 := Lib.hid hr; have HD4 := Lib.hid hD4; clear s30 s31 s32 s33 s34 s35 hb hr hS4 hD4; obtain ⟨s40, s41, s42, s43, s44, s45⟩ := HS4.out.cells; obtain ⟨t0, t1, t2, u0, u1, u2⟩ := HS4.out.2.2.1.three))
      have hle := HLE.out
      obtain ⟨-, q0, q1, q2⟩ := HS4.out.2.2.1.three_set (.bool false) (.slice A4 (Nt.digs (n2 * d1 - n1 * d2)).length c4) (.slice A3 (Nt.digs (d1 * d2)).length c3)
      go_wp2_with fail
      refine bodyPost_ret (v := .agg #[.bool false, (.slice A4 (Nt.digs (n2 * d1 - n1 * d2)).length c4), (.slice A3 (Nt.digs (d1 * d2)).length c3)]) (by simp [results, Tryz.results23, go_sem, q0, q1, q2]) rfl ?_
      exact ⟨below_three HS4.out.bel (by omega) _ _ _, _, false, _, rfl, ⟨_, _, rfl, HR4.out.apart HS4.out.2.2.1 _ _ _, HD4.out.apart HS4.out.2.2.1 _ _ _⟩, by simp [Nt.zi]; omega, by omega⟩
  · go_upto_region 4 with (go_at_call 48; (with_reducible refine (HT3.out _ HS2.out.bel).mono ?_); rintro e w3 ⟨vd, rfl, hd, hb⟩; have hS3 := HS2.out.step hb; have hP3 := HP2.out.below hb; have hQ3 := HQ2.out.below hb; have HS3 := Lib.hid hS3; have HP3 := Lib.hid hP3; have HQ3 := Lib.hid hQ3; obtain ⟨A3, c3, rfl, -, -, -, -⟩ := id hd.ex; have HD3 := Lib.hid hd; clear s10 s11 s12 s13 s14 s15 s20 s21 s22 s23 s24 s25 hS3 hP3 hQ3 hb hd; obtain ⟨s30, s31, s32, s33, s34, s35⟩ := HS3.out.cells)
    go_region_held3 (fun w' => w'.cell? ⟨w.heap.size, 0, none⟩ = some (.bool true)) (first | assumption | (with_reducible exact HS4.out.cells.1) | (with_reducible exact HS4.out.drew.cells.1) | (with_reducible exact HS3.out.cells.1) | (with_reducible exact HS3.out.drew.cells.1) | exact (HS4.out.1.three_far (by omega) _ _ _).cell 0) ((go_at_call 49; (with_reducible refine (HPL.out _ _ _ HP3.out.drew HQ3.out.drew).mono ?_); rintro e w4 ⟨vr, rfl, hr, hb⟩; obtain ⟨A4, c4, rfl, -, -, -, -⟩ := id hr.ex; have hS4 := HS3.out.drew.step hb; have hD4 := HD3.out.drew.below hb; have HS4 := Lib.hid hS4; have HR4 := Lib.hid hr; have HD4 := Lib.hid hD4; clear s30 s31 s32 s33 s34 s35 hb hr hS4 hD4; obtain ⟨s40, s41, s42, s43, s44, s45⟩ := HS4.out.cells; obtain ⟨t0, t1, t2, u0, u1, u2⟩ := HS4.out.2.2.1.three))
    obtain ⟨-, q0, q1, q2⟩ := HS4.out.2.2.1.three_set (.bool true) (.slice A4 (Nt.digs (n1 * d2 + n2 * d1)).length c4) (.slice A3 (Nt.digs (d1 * d2)).length c3)
    go_wp2_with fail
    refine bodyPost_ret (v := .agg #[.bool true, (.slice A4 (Nt.digs (n1 * d2 + n2 * d1)).length c4), (.slice A3 (Nt.digs (d1 * d2)).length c3)]) (by simp [results, Tryz.results23, go_sem, q0, q1, q2]) rfl ?_
    exact ⟨below_three HS4.out.bel (by omega) _ _ _, _, true, _, rfl, ⟨_, _, rfl, HR4.out.apart HS4.out.2.2.1 _ _ _, HD4.out.apart HS4.out.2.2.1 _ _ _⟩, by simp [Nt.zi]; omega, by omega⟩
end Go.Proofs.YtmapagbmihpbmaaGreatDoor
