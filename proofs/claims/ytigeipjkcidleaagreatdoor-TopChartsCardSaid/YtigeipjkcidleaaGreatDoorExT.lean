/- The contract of exact's two, over a function that is handed to it. -/
import Derived.Test.YtigeipjkcidleaaGreatDoorExB
import Derived.Test.YtigeipjkcidleaaGreatDoorExW
namespace Go.Proofs.YtigeipjkcidleaaGreatDoor
open Go.RowKit

/-- What the function handed to two gives. -/
def FnRet (P : Bool → Nat → Prop) (d : Nat) (W : World) (e : Ending) (w' : World) : Prop :=
  ∃ m n A c A' c', e = .returned (.tuple #[.agg #[.bool m, .slice A (Nt.digs n).length c, .slice A' (Nt.digs d).length c'], .int .i64 0]) ∧ P m n ∧ Nv w' (.slice A (Nt.digs n).length c) (Nt.digs n) ∧ Nv w' (.slice A' (Nt.digs d).length c') (Nt.digs d) ∧ Below W.heap.size W w'
def OpRet (P : Bool → Nat → Prop) (d : Nat) (w : World) (e : Ending) (w' : World) : Prop :=
  ∃ (m : Bool) (n : Nat) (sn sd : ByteArray), P m n ∧ e = .returned (.tuple #[.agg #[.string sn, .string sd], .int .i64 0]) ∧ sn.data.toList = Nt.numT m n d ∧ sd.data.toList = Nt.denT n d ∧ Below w.heap.size w w'
structure Fits (n d : Nat) : Prop where
  s1 : (Nt.digs n).length ≤ 900000
  s2 : (Nt.digs d).length ≤ 900000
  f1 : (Lib.decDigits (n / Nat.gcd n d)).length ≤ 300
  f2 : (Lib.decDigits (d / Nat.gcd n d)).length ≤ 300

set_option maxRecDepth 100000 in
set_option maxHeartbeats 2000000 in
theorem two_Add (P : Bool → Nat → Prop) (d : Nat) (hd : d ≠ 0) (a1 a2 b1 b2 : ByteArray) (m1 : Bool) (n1 d1 : Nat) (m2 : Bool) (n2 d2 : Nat) (w : World) (h1 : a1.size ≤ 9223372036854775807) (h2 : a2.size ≤ 9223372036854775807) (h3 : b1.size ≤ 9223372036854775807) (h4 : b2.size ≤ 9223372036854775807)
    (ha : Nt.Rd a1.data.toList a2.data.toList m1 n1 d1) (hb : Nt.Rd b1.data.toList b2.data.toList m2 n2 d2) (htab : Lib.TabIs Tryz.prog w "internal/strconv.uint64pow10" .u64 Lib.pow10Tab)
    (hf : ∀ (W : World) (A1 : Option Addr) (c1 : Nat) (A2 : Option Addr) (c2 : Nat) (B1 : Option Addr) (k1 : Nat) (B2 : Option Addr) (k2 : Nat), Nv W (.slice A1 (Nt.digs n1).length c1) (Nt.digs n1) → Nv W (.slice A2 (Nt.digs d1).length c2) (Nt.digs d1) → Nv W (.slice B1 (Nt.digs n2).length k1) (Nt.digs n2) → Nv W (.slice B2 (Nt.digs d2).length k2) (Nt.digs d2) →
      Calls Tryz.prog 35 #[.agg #[.bool m1, .slice A1 (Nt.digs n1).length c1, .slice A2 (Nt.digs d1).length c2], .agg #[.bool m2, .slice B1 (Nt.digs n2).length k1, .slice B2 (Nt.digs d2).length k2]] W (FnRet P d W))
    (hP : ∀ m n, P m n → Fits n d) :
    Calls Tryz.prog 34 #[.agg #[.string a1, .string a2], .agg #[.string b1, .string b2], .func (.func 35) #[] #[]] w (OpRet P d w) := by
  have HBO := Lib.hid fun W => both_ok a1 a2 b1 b2 m1 n1 d1 m2 n2 d2 W h1 h2 h3 h4 ha hb
  have HF := Lib.hid hf
  have HP := Lib.hid hP
  have HD := Lib.hid hd
  have HT := Lib.hid (show ∀ W, Below w.heap.size w W → Lib.TabIs Tryz.prog W "internal/strconv.uint64pow10" .u64 Lib.pow10Tab from Lib.tabBelow_of_tabIs htab)
  clear ha hb h1 h2 h3 h4 hf hP hd htab
  have HL0 := Lib.hid ((((Loc.start w).alloc' rfl 24 #[.string a1, .string a2]).alloc' (g := w.heap.size + 1) (by simp) 24 #[.string b1, .string b2]).alloc' (g := w.heap.size + 2) (by simp) 24 #[.string ⟨#[]⟩, .string ⟨#[]⟩])
  go_enter Tryz.func34, Tryz.ntmps34
  go_wp2_with (first
    | (go_at_call 75; (with_reducible refine (HBO.out _).mono ?_); rintro e w1 ⟨A1, c1, A2, c2, B1, k1, B2, k2, rfl, hn1, hn2, hm1, hm2, hb⟩; have HL1 := Lib.hid (((HL0.out.step hb).alloc 107 #[.bool m1, .slice A1 (Nt.digs n1).length c1, .slice A2 (Nt.digs d1).length c2]).alloc 107 #[.bool m2, .slice B1 (Nt.digs n2).length k1, .slice B2 (Nt.digs d2).length k2]); have HAL := Lib.hid (((Below.refl _ w1).alloc (Nat.le_refl _) (.cells #[.bool m1, .slice A1 (Nt.digs n1).length c1, .slice A2 (Nt.digs d1).length c2] 107)).alloc (by simp) (.cells #[.bool m2, .slice B1 (Nt.digs n2).length k1, .slice B2 (Nt.digs d2).length k2] 107)); have HN1 := Lib.hid hn1; have HN2 := Lib.hid hn2; have HM1 := Lib.hid hm1; have HM2 := Lib.hid hm2; clear hn1 hn2 hm1 hm2 hb)
    | ((with_reducible refine (HF.out _ _ _ _ _ _ _ _ _ (HN1.out.below HAL.out) (HN2.out.below HAL.out) (HM1.out.below HAL.out) (HM2.out.below HAL.out)).mono ?_); rintro e w2 ⟨m, n, A, c, A', c', rfl, hp, hr1, hr2, hb⟩; have HL2 := Lib.hid ((HL1.out.step hb).alloc 107 #[.bool m, .slice A (Nt.digs n).length c, .slice A' (Nt.digs d).length c']); have HPP := Lib.hid hp; have HR1 := Lib.hid (hr1.below ((Below.refl _ w2).alloc (Nat.le_refl _) (.cells #[.bool m, .slice A (Nt.digs n).length c, .slice A' (Nt.digs d).length c'] 107))); have HR2 := Lib.hid (hr2.below ((Below.refl _ w2).alloc (Nat.le_refl _) (.cells #[.bool m, .slice A (Nt.digs n).length c, .slice A' (Nt.digs d).length c'] 107))); clear hp hr1 hr2 hb)
    | (go_at_call 76; (with_reducible refine (write_any _ m n d _ ⟨_, _, rfl, HR1.out, HR2.out⟩ HD.out (HP.out m n HPP.out).s1 (HP.out m n HPP.out).s2 (HP.out m n HPP.out).f1 (HP.out m n HPP.out).f2 (HT.out _ HL2.out.bel)).mono ?_); rintro e w3 ⟨hb, sn, sd, rfl, e1, e2⟩; have hl := HL2.out.step hb; have HL3 := Lib.hid hl; have bl := hl.blk (g := w.heap.size + 2) (t := 24) (cs := #[.string ⟨#[]⟩, .string ⟨#[]⟩]) (by simp); have HBL := Lib.hid bl; obtain ⟨x0, x1, f0, f1⟩ := bl.two; have E1 := Lib.hid e1; have E2 := Lib.hid e2; clear hl bl hb e1 e2))
  obtain ⟨-, q0, q1⟩ := HBL.out.two_set (.string sn) (.string sd)
  refine bodyPost_ret (v := .tuple #[.agg #[.string sn, .string sd], .int .i64 0]) (by simp [results, Tryz.results34, go_sem, q0, q1]) rfl ?_
  exact ⟨m, n, sn, sd, HPP.out, rfl, E1.out, E2.out, below_two HL3.out.bel (by omega) _ _⟩
set_option maxRecDepth 100000 in
set_option maxHeartbeats 2000000 in
theorem two_Mul (P : Bool → Nat → Prop) (d : Nat) (hd : d ≠ 0) (a1 a2 b1 b2 : ByteArray) (m1 : Bool) (n1 d1 : Nat) (m2 : Bool) (n2 d2 : Nat) (w : World) (h1 : a1.size ≤ 9223372036854775807) (h2 : a2.size ≤ 9223372036854775807) (h3 : b1.size ≤ 9223372036854775807) (h4 : b2.size ≤ 9223372036854775807)
    (ha : Nt.Rd a1.data.toList a2.data.toList m1 n1 d1) (hb : Nt.Rd b1.data.toList b2.data.toList m2 n2 d2) (htab : Lib.TabIs Tryz.prog w "internal/strconv.uint64pow10" .u64 Lib.pow10Tab)
    (hf : ∀ (W : World) (A1 : Option Addr) (c1 : Nat) (A2 : Option Addr) (c2 : Nat) (B1 : Option Addr) (k1 : Nat) (B2 : Option Addr) (k2 : Nat), Nv W (.slice A1 (Nt.digs n1).length c1) (Nt.digs n1) → Nv W (.slice A2 (Nt.digs d1).length c2) (Nt.digs d1) → Nv W (.slice B1 (Nt.digs n2).length k1) (Nt.digs n2) → Nv W (.slice B2 (Nt.digs d2).length k2) (Nt.digs d2) →
      Calls Tryz.prog 136 #[.agg #[.bool m1, .slice A1 (Nt.digs n1).length c1, .slice A2 (Nt.digs d1).length c2], .agg #[.bool m2, .slice B1 (Nt.digs n2).length k1, .slice B2 (Nt.digs d2).length k2]] W (FnRet P d W))
    (hP : ∀ m n, P m n → Fits n d) :
    Calls Tryz.prog 34 #[.agg #[.string a1, .string a2], .agg #[.string b1, .string b2], .func (.func 136) #[] #[]] w (OpRet P d w) := by
  have HBO := Lib.hid fun W => both_ok a1 a2 b1 b2 m1 n1 d1 m2 n2 d2 W h1 h2 h3 h4 ha hb
  have HF := Lib.hid hf
  have HP := Lib.hid hP
  have HD := Lib.hid hd
  have HT := Lib.hid (show ∀ W, Below w.heap.size w W → Lib.TabIs Tryz.prog W "internal/strconv.uint64pow10" .u64 Lib.pow10Tab from Lib.tabBelow_of_tabIs htab)
  clear ha hb h1 h2 h3 h4 hf hP hd htab
  have HL0 := Lib.hid ((((Loc.start w).alloc' rfl 24 #[.string a1, .string a2]).alloc' (g := w.heap.size + 1) (by simp) 24 #[.string b1, .string b2]).alloc' (g := w.heap.size + 2) (by simp) 24 #[.string ⟨#[]⟩, .string ⟨#[]⟩])
  go_enter Tryz.func34, Tryz.ntmps34
  go_wp2_with (first
    | (go_at_call 75; (with_reducible refine (HBO.out _).mono ?_); rintro e w1 ⟨A1, c1, A2, c2, B1, k1, B2, k2, rfl, hn1, hn2, hm1, hm2, hb⟩; have HL1 := Lib.hid (((HL0.out.step hb).alloc 107 #[.bool m1, .slice A1 (Nt.digs n1).length c1, .slice A2 (Nt.digs d1).length c2]).alloc 107 #[.bool m2, .slice B1 (Nt.digs n2).length k1, .slice B2 (Nt.digs d2).length k2]); have HAL := Lib.hid (((Below.refl _ w1).alloc (Nat.le_refl _) (.cells #[.bool m1, .slice A1 (Nt.digs n1).length c1, .slice A2 (Nt.digs d1).length c2] 107)).alloc (by simp) (.cells #[.bool m2, .slice B1 (Nt.digs n2).length k1, .slice B2 (Nt.digs d2).length k2] 107)); have HN1 := Lib.hid hn1; have HN2 := Lib.hid hn2; have HM1 := Lib.hid hm1; have HM2 := Lib.hid hm2; clear hn1 hn2 hm1 hm2 hb)
    | ((with_reducible refine (HF.out _ _ _ _ _ _ _ _ _ (HN1.out.below HAL.out) (HN2.out.below HAL.out) (HM1.out.below HAL.out) (HM2.out.below HAL.out)).mono ?_); rintro e w2 ⟨m, n, A, c, A', c', rfl, hp, hr1, hr2, hb⟩; have HL2 := Lib.hid ((HL1.out.step hb).alloc 107 #[.bool m, .slice A (Nt.digs n).length c, .slice A' (Nt.digs d).length c']); have HPP := Lib.hid hp; have HR1 := Lib.hid (hr1.below ((Below.refl _ w2).alloc (Nat.le_refl _) (.cells #[.bool m, .slice A (Nt.digs n).length c, .slice A' (Nt.digs d).length c'] 107))); have HR2 := Lib.hid (hr2.below ((Below.refl _ w2).alloc (Nat.le_refl _) (.cells #[.bool m, .slice A (Nt.digs n).length c, .slice A' (Nt.digs d).length c'] 107))); clear hp hr1 hr2 hb)
    | (go_at_call 76; (with_reducible refine (write_any _ m n d _ ⟨_, _, rfl, HR1.out, HR2.out⟩ HD.out (HP.out m n HPP.out).s1 (HP.out m n HPP.out).s2 (HP.out m n HPP.out).f1 (HP.out m n HPP.out).f2 (HT.out _ HL2.out.bel)).mono ?_); rintro e w3 ⟨hb, sn, sd, rfl, e1, e2⟩; have hl := HL2.out.step hb; have HL3 := Lib.hid hl; have bl := hl.blk (g := w.heap.size + 2) (t := 24) (cs := #[.string ⟨#[]⟩, .string ⟨#[]⟩]) (by simp); have HBL := Lib.hid bl; obtain ⟨x0, x1, f0, f1⟩ := bl.two; have E1 := Lib.hid e1; have E2 := Lib.hid e2; clear hl bl hb e1 e2))
  obtain ⟨-, q0, q1⟩ := HBL.out.two_set (.string sn) (.string sd)
  refine bodyPost_ret (v := .tuple #[.agg #[.string sn, .string sd], .int .i64 0]) (by simp [results, Tryz.results34, go_sem, q0, q1]) rfl ?_
  exact ⟨m, n, sn, sd, HPP.out, rfl, E1.out, E2.out, below_two HL3.out.bel (by omega) _ _⟩
set_option maxRecDepth 100000 in
set_option maxHeartbeats 2000000 in
theorem two_Div (P : Bool → Nat → Prop) (d : Nat) (hd : d ≠ 0) (a1 a2 b1 b2 : ByteArray) (m1 : Bool) (n1 d1 : Nat) (m2 : Bool) (n2 d2 : Nat) (w : World) (h1 : a1.size ≤ 9223372036854775807) (h2 : a2.size ≤ 9223372036854775807) (h3 : b1.size ≤ 9223372036854775807) (h4 : b2.size ≤ 9223372036854775807)
    (ha : Nt.Rd a1.data.toList a2.data.toList m1 n1 d1) (hb : Nt.Rd b1.data.toList b2.data.toList m2 n2 d2) (htab : Lib.TabIs Tryz.prog w "internal/strconv.uint64pow10" .u64 Lib.pow10Tab)
    (hf : ∀ (W : World) (A1 : Option Addr) (c1 : Nat) (A2 : Option Addr) (c2 : Nat) (B1 : Option Addr) (k1 : Nat) (B2 : Option Addr) (k2 : Nat), Nv W (.slice A1 (Nt.digs n1).length c1) (Nt.digs n1) → Nv W (.slice A2 (Nt.digs d1).length c2) (Nt.digs d1) → Nv W (.slice B1 (Nt.digs n2).length k1) (Nt.digs n2) → Nv W (.slice B2 (Nt.digs d2).length k2) (Nt.digs d2) →
      Calls Tryz.prog 127 #[.agg #[.bool m1, .slice A1 (Nt.digs n1).length c1, .slice A2 (Nt.digs d1).length c2], .agg #[.bool m2, .slice B1 (Nt.digs n2).length k1, .slice B2 (Nt.digs d2).length k2]] W (FnRet P d W))
    (hP : ∀ m n, P m n → Fits n d) :
    Calls Tryz.prog 34 #[.agg #[.string a1, .string a2], .agg #[.string b1, .string b2], .func (.func 127) #[] #[]] w (OpRet P d w) := by
  have HBO := Lib.hid fun W => both_ok a1 a2 b1 b2 m1 n1 d1 m2 n2 d2 W h1 h2 h3 h4 ha hb
  have HF := Lib.hid hf
  have HP := Lib.hid hP
  have HD := Lib.hid hd
  have HT := Lib.hid (show ∀ W, Below w.heap.size w W → Lib.TabIs Tryz.prog W "internal/strconv.uint64pow10" .u64 Lib.pow10Tab from Lib.tabBelow_of_tabIs htab)
  clear ha hb h1 h2 h3 h4 hf hP hd htab
  have HL0 := Lib.hid ((((Loc.start w).alloc' rfl 24 #[.string a1, .string a2]).alloc' (g := w.heap.size + 1) (by simp) 24 #[.string b1, .string b2]).alloc' (g := w.heap.size + 2) (by simp) 24 #[.string ⟨#[]⟩, .string ⟨#[]⟩])
  go_enter Tryz.func34, Tryz.ntmps34
  go_wp2_with (first
    | (go_at_call 75; (with_reducible refine (HBO.out _).mono ?_); rintro e w1 ⟨A1, c1, A2, c2, B1, k1, B2, k2, rfl, hn1, hn2, hm1, hm2, hb⟩; have HL1 := Lib.hid (((HL0.out.step hb).alloc 107 #[.bool m1, .slice A1 (Nt.digs n1).length c1, .slice A2 (Nt.digs d1).length c2]).alloc 107 #[.bool m2, .slice B1 (Nt.digs n2).length k1, .slice B2 (Nt.digs d2).length k2]); have HAL := Lib.hid (((Below.refl _ w1).alloc (Nat.le_refl _) (.cells #[.bool m1, .slice A1 (Nt.digs n1).length c1, .slice A2 (Nt.digs d1).length c2] 107)).alloc (by simp) (.cells #[.bool m2, .slice B1 (Nt.digs n2).length k1, .slice B2 (Nt.digs d2).length k2] 107)); have HN1 := Lib.hid hn1; have HN2 := Lib.hid hn2; have HM1 := Lib.hid hm1; have HM2 := Lib.hid hm2; clear hn1 hn2 hm1 hm2 hb)
    | ((with_reducible refine (HF.out _ _ _ _ _ _ _ _ _ (HN1.out.below HAL.out) (HN2.out.below HAL.out) (HM1.out.below HAL.out) (HM2.out.below HAL.out)).mono ?_); rintro e w2 ⟨m, n, A, c, A', c', rfl, hp, hr1, hr2, hb⟩; have HL2 := Lib.hid ((HL1.out.step hb).alloc 107 #[.bool m, .slice A (Nt.digs n).length c, .slice A' (Nt.digs d).length c']); have HPP := Lib.hid hp; have HR1 := Lib.hid (hr1.below ((Below.refl _ w2).alloc (Nat.le_refl _) (.cells #[.bool m, .slice A (Nt.digs n).length c, .slice A' (Nt.digs d).length c'] 107))); have HR2 := Lib.hid (hr2.below ((Below.refl _ w2).alloc (Nat.le_refl _) (.cells #[.bool m, .slice A (Nt.digs n).length c, .slice A' (Nt.digs d).length c'] 107))); clear hp hr1 hr2 hb)
    | (go_at_call 76; (with_reducible refine (write_any _ m n d _ ⟨_, _, rfl, HR1.out, HR2.out⟩ HD.out (HP.out m n HPP.out).s1 (HP.out m n HPP.out).s2 (HP.out m n HPP.out).f1 (HP.out m n HPP.out).f2 (HT.out _ HL2.out.bel)).mono ?_); rintro e w3 ⟨hb, sn, sd, rfl, e1, e2⟩; have hl := HL2.out.step hb; have HL3 := Lib.hid hl; have bl := hl.blk (g := w.heap.size + 2) (t := 24) (cs := #[.string ⟨#[]⟩, .string ⟨#[]⟩]) (by simp); have HBL := Lib.hid bl; obtain ⟨x0, x1, f0, f1⟩ := bl.two; have E1 := Lib.hid e1; have E2 := Lib.hid e2; clear hl bl hb e1 e2))
  obtain ⟨-, q0, q1⟩ := HBL.out.two_set (.string sn) (.string sd)
  refine bodyPost_ret (v := .tuple #[.agg #[.string sn, .string sd], .int .i64 0]) (by simp [results, Tryz.results34, go_sem, q0, q1]) rfl ?_
  exact ⟨m, n, sn, sd, HPP.out, rfl, E1.out, E2.out, below_two HL3.out.bel (by omega) _ _⟩
end Go.Proofs.YtigeipjkcidleaaGreatDoor
