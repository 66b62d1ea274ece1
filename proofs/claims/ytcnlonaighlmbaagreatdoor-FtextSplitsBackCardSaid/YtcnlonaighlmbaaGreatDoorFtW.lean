/- ftext: a call with scalar arguments that answers a scalar. -/
import Derived.Test.YtcnlonaighlmbaaGreatDoorFtU
import Derived.Test.YtcnlonaighlmbaaGreatDoorFtV
import Derived.Test.YtcnlonaighlmbaaGreatDoorFtR
set_option linter.unusedSimpArgs false
set_option linter.unusedVariables false
namespace Go.Proofs.YtcnlonaighlmbaaGreatDoor
open Go.RowKit

/-- A scalar value that is permitted. -/
structure Sc (u : Vl) : Prop where
  ok : u.ok
  s1 : u.num.size ≤ 9223372036854775807
  s2 : u.den.size ≤ 9223372036854775807
  s3 : u.text.size ≤ 9223372036854775807
  a0 : u.A = none
  n0 : u.n = 0
  c0 : u.c = 0
  r0 : u.rows = 0
def bV (b : Bool) : Vl := ⟨3, ⟨#[]⟩, ⟨#[]⟩, ⟨#[]⟩, b, 0, 0, 0, none, 0, 0⟩
theorem Sc.k5 {u : Vl} (h : Sc u) : ¬ u.k = 5 := by
  have := h.ok.2.1
  omega
theorem e_size : (⟨#[]⟩ : ByteArray).size ≤ 9223372036854775807 := by decide
theorem tV_sc {t : ByteArray} (h : txtE t = 0) : Sc (tV t) := ⟨tval_ok h, e_size, e_size, Nat.le_trans (txtE_size h) (by decide), rfl, rfl, rfl, rfl⟩
theorem nV_sc (k : Nat) (hk : k ≤ 100000) : Sc (nV k) := ⟨nV_ok k (by omega), Nat.le_trans (nt_size k (by omega)) (by decide), (show (⟨#[49]⟩ : ByteArray).size ≤ _ by decide), e_size, rfl, rfl, rfl, rfl⟩
theorem bV_sc (b : Bool) : Sc (bV b) := ⟨⟨show (0 : Int) ≤ 3 by decide, show (3 : Int) ≤ 4 by decide, by simp [bV, Vl.zB, Lib.toList_data, frSame], fun h => absurd (show (3 : Int) = 1 from h) (by decide), fun h => absurd (show (3 : Int) = 2 from h) (by decide), fun h => absurd (show (3 : Int) = 4 from h) (by decide)⟩, e_size, e_size, e_size, rfl, rfl, rfl, rfl⟩
/-- Just this value. -/
def PhV (v : Vl) (h : Vl) (us : List Vl) : Prop := h = v ∧ us = []
theorem hd_1 {v : Vl} (hv : Sc v) : ∀ h us, PhV v h us → HdOk h us := fun h us hP => .inl ⟨by rw [hP.1, hv.r0], hP.2⟩
theorem vd_1 {v : Vl} (hv : Sc v) : ∀ (k : Int) (num den text : ByteArray) (on : Bool) (code rr rc : Int) (A2 : Option Addr) (n2 c2 : Nat) (us : List Vl) (W' : World), VEnv W' → PhV v ⟨k, num, den, text, on, code, rr, rc, none, 0, 0⟩ us → Reads 9 csV W' (.slice A2 n2 c2) us → Calls Tryz.prog 18 #[.agg #[.int .i64 k, .string num, .string den, .string text, .bool on, .int .i64 code, .int .i64 rr, .int .i64 rc, .slice A2 n2 c2]] W' fun e w' => e = .returned (.agg #[.int .i64 k, .string num, .string den, .string text, .bool on, .int .i64 code, .int .i64 rr, .int .i64 rc, .slice A2 n2 c2]) ∧ Below W'.heap.size W' w' := by
  intro k num den text on code rr rc A2 n2 c2 us W' he hP hr
  obtain ⟨h1, rfl⟩ := hP
  obtain ⟨A', c', e, -⟩ := hr
  injection e with e1 e2 e3
  have e2 : n2 = 0 := e2
  subst e2 h1
  exact valid_t ⟨k, num, den, text, on, code, rr, rc, A2, 0, c2⟩ W' he hv.ok hv.s1 hv.s2 hv.s3
theorem vres_1 {W : World} {v : Vl} (hv : Sc v) {e : Ending} {w' : World} (hr : VRes W (PhV v) e w') : e = .returned v.v ∧ Below W.heap.size W w' := by
  obtain ⟨k, num, den, text, on, code, rr, rc, A2, n2, c2, us, rfl, ⟨h1, h2⟩, hrd, hz, -, hb⟩ := hr
  subst h2
  obtain ⟨A', c', e, -⟩ := hrd
  injection e with e1 e2 e3
  have e2 : n2 = 0 := e2
  obtain ⟨z1, z2⟩ := hz e2
  subst e2 z1 z2 h1
  exact ⟨rfl, hb⟩
/-- What a function of scalars does. -/
def ResV (v : Vl) (q : Nat) (W : World) (e : Ending) (w' : World) : Prop := e = .returned v.v ∧ Chg W.heap.size [q] W w'
theorem resG_1 {v : Vl} (hv : Sc v) (B0 W : World) (q : Nat) {e : Ending} {w' : World} (h : ResV v q W e w') : ResG B0 W [q] (PhV v) e w' := by
  obtain ⟨rfl, hc⟩ := h
  obtain ⟨k, num, den, text, on, code, rr, rc, A, n, c⟩ := v
  obtain rfl : A = none := hv.a0
  obtain rfl : n = 0 := hv.n0
  obtain rfl : c = 0 := hv.c0
  exact ⟨k, num, den, text, on, code, rr, rc, none, 0, 0, [], rfl, ⟨rfl, rfl⟩, reads_nil _, (fun b o e => by cases e), hc⟩
theorem let_any (l : UInt8) (i : Nat) (hi : i < 1000) (W : World) : Calls Tryz.prog 103 #[.string ⟨#[l]⟩, .int .i64 (i : Int)] W fun e w' => e = .returned (.int .u8 (l.toNat : Int)) ∧ W = w' := by
  rcases Nat.eq_zero_or_pos i with h | h
  · subst h
    go_enter Tryz.func103, Tryz.ntmps103
    go_wp2
    go_ret
    exact ⟨rfl, rfl⟩
  · have h1 : (0 : Int) < (i : Int) := by omega
    have h2 : ¬ (i : Int) < 0 := by omega
    have h3 : ¬ (i : Int) ≤ 0 := by omega
    have h4 : ¬ (i : Int) = 0 := by omega
    have h5 : min (i : Int) 0 = 0 := by omega
    go_enter Tryz.func103, Tryz.ntmps103
    go_wp2
    go_ret
    exact ⟨rfl, rfl⟩
/-- A call of a function with scalar arguments that answers a scalar. -/
theorem call_1 (W : World) (name : ByteArray) (lo hi : Int) (l : UInt8) (F : Nat) (hf : (tabL.find? fun y => sameT y.1 name) = some (name, lo, hi, ⟨#[l]⟩, (F, none))) (hl : l = 115 ∨ l = 97) (A : Option Addr) (n c : Nat) (v : Vl) (avs : List Vl) (hv : Sc v) (havs : ∀ u ∈ avs, Sc u) (he : VEnv W) (hA : Reads 9 csV W (.slice A n c) avs) (hn1 : 1 ≤ n) (hn2 : n ≤ 4) (h1 : lo ≤ (n : Int)) (h2 : (n : Int) ≤ hi)
    (hE : ∀ (B0 W1 W' : World) (p : Nat) (A1 : Option Addr) (c1 : Nat), Blk W' p 89 #[.func (.func F) #[] #[]] → B0.heap.size ≤ W1.heap.size → Below W1.heap.size W1 W' → (∀ W'' q, Below W1.heap.size W1 W'' → W1.heap.size ≤ q → Blk W'' q 120 #[.slice A1 n c1, .int .i64 0] → Calls Tryz.prog F #[.pointer (some ⟨q, 0, none⟩)] W'' (ResG B0 W'' [q] (PhV v))) → Calls Tryz.prog 105 #[.slice A1 n c1, .pointer (some ⟨p, 0, none⟩)] W' (ResG B0 W' [] (PhV v)))
    (hF : ∀ (W0 W'' : World) (q : Nat) (A1 : Option Addr) (c1 : Nat), VEnv W0 → Below W0.heap.size W0 W'' → W0.heap.size ≤ q → Blk W'' q 120 #[.slice A1 n c1, .int .i64 0] → Reads 9 csV W0 (.slice A1 n c1) avs → Calls Tryz.prog F #[.pointer (some ⟨q, 0, none⟩)] W'' (ResV v q W'')) :
    Calls Tryz.prog 8 #[.string name, .slice A n c] W fun e w' => e = .returned v.v ∧ Below W.heap.size W w' := by
  have hlen : avs.length = n := by
    obtain ⟨A', c', e, -⟩ := hA
    injection e with e1 e2 e3
    exact e2.symm
  have hsc : ∀ i, i < n → Sc avs[i]! := fun i hi => by
    rw [getElem!_pos avs i (by omega)]
    exact havs _ (List.getElem_mem _)
  refine (tx_n W name (name, lo, hi, ⟨#[l]⟩, (F, none)) F rfl hf A n c (PhV v) avs (hd_1 hv) he hA hn1 hn2 h1 h2 (by rcases hl with rfl | rfl <;> (dsimp only; decide +kernel)) (fun W' => ?_) (fun i hi => ⟨(l.toNat : Int), fun W' => let_any l i (by omega) W', fun _ => (hsc i hi).k5⟩) (fun i hi W' hW => check_t' _ W' (he.below hW) (hsc i hi).ok (hsc i hi).s1 (hsc i hi).s2 (hsc i hi).s3) (vd_1 hv) hE (fun B0 W0 W'' q A1 c1 hB h0 hw hq hb hA' => (hF W0 W'' q A1 c1 (he.below (below_tr hB h0)) hw hq hb hA').mono fun e w' h => resG_1 hv B0 W'' q h)).mono fun e w' h => vres_1 hv h
  rcases hl with rfl | rfl
  · exact trim_sa ⟨#[115]⟩ (by decide +kernel) (by decide +kernel) W'
  · exact trim_sa ⟨#[97]⟩ (by decide +kernel) (by decide +kernel) W'
end Go.Proofs.YtcnlonaighlmbaaGreatDoor
