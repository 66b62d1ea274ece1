/- pivot.Make: three rows of headers are made, in any order. -/
import Derived.Test.YtmapagbmihpbmaaGreatDoorGs
set_option linter.unusedSimpArgs false
set_option linter.unusedVariables false
namespace Go.Proofs.YtmapagbmihpbmaaGreatDoor
open Go.RowKit

/-- The act but for what the three makes put. -/
structure Agm (a0 a : Act) : Prop where
  defers : a.defers = a0.defers
  size : a.tmps.size = a0.tmps.size
  rest : ∀ k, k ≠ 58 → k ≠ 60 → k ≠ 62 → k ≠ 11 → k ≠ 12 → k ≠ 13 → a.tmps.getD k undef = a0.tmps.getD k undef
theorem Agm.put {a0 a : Act} (h : Agm a0 a) (d : Nat) (hd : d = 58 ∨ d = 60 ∨ d = 62 ∨ d = 11 ∨ d = 12 ∨ d = 13) (v : Value) : Agm a0 (a.put (some d) v) :=
  ⟨h.defers, by simpa [Act.put] using h.size, fun k h58 h60 h62 h11 h12 h13 => by
    rw [put_ne _ _ _ _ (by omega)]
    exact h.rest k h58 h60 h62 h11 h12 h13⟩
set_option maxHeartbeats 4000000 in
theorem Agm.eq {a0 a : Act} (h : Agm a0 a) (hs : 107 < a0.tmps.size) {x58 x60 x62 x11 x12 x13 : Value} (e58 : a.tmps.getD 58 undef = x58) (e60 : a.tmps.getD 60 undef = x60) (e62 : a.tmps.getD 62 undef = x62) (e11 : a.tmps.getD 11 undef = x11) (e12 : a.tmps.getD 12 undef = x12) (e13 : a.tmps.getD 13 undef = x13) : a = (((((a0.put (some 58) x58).put (some 60) x60).put (some 62) x62).put (some 11) x11).put (some 12) x12).put (some 13) x13 := by
  refine act_ext h.defers (by simp only [put_size, h.size]) fun k => ?_
  by_cases h13 : k = 13
  · rw [h13, e13, put_same _ _ _ (by (try simp only [put_size]); omega)]
  rw [put_ne _ _ _ _ h13]
  by_cases h12 : k = 12
  · rw [h12, e12, put_same _ _ _ (by (try simp only [put_size]); omega)]
  rw [put_ne _ _ _ _ h12]
  by_cases h11 : k = 11
  · rw [h11, e11, put_same _ _ _ (by (try simp only [put_size]); omega)]
  rw [put_ne _ _ _ _ h11]
  by_cases h62 : k = 62
  · rw [h62, e62, put_same _ _ _ (by (try simp only [put_size]); omega)]
  rw [put_ne _ _ _ _ h62]
  by_cases h60 : k = 60
  · rw [h60, e60, put_same _ _ _ (by (try simp only [put_size]); omega)]
  rw [put_ne _ _ _ _ h60]
  by_cases h58 : k = 58
  · rw [h58, e58, put_same _ _ _ (by (try simp only [put_size]); omega)]
  rw [put_ne _ _ _ _ h58]
  exact h.rest k h58 h60 h62 h11 h12 h13
structure Mc where
  W0 : World
  n1 : Nat
  n2 : Nat
  n3 : Nat
abbrev hNil : Nat → SV := fun _ => (none, 0, 0)
structure Sm (c : Mc) (a0 : Act) (m1 m2 m3 : Bool) (l : Nat) (h1 h2 h3 : Nat) (a : Act) (W : World) : Prop where
  agr : Agm a0 a
  bel : Below c.W0.heap.size c.W0 W
  e1 : m1 = true → a.tmps.getD 58 undef = .slice (some ⟨h1, 0, none⟩) c.n1 c.n1 ∧ HR W c.W0.heap.size h1 c.n1 hNil
  e2 : m2 = true → a.tmps.getD 60 undef = .slice (some ⟨h2, 0, none⟩) c.n2 c.n2 ∧ HR W c.W0.heap.size h2 c.n2 hNil
  e3 : m3 = true → a.tmps.getD 62 undef = .slice (some ⟨h3, 0, none⟩) c.n3 c.n3 ∧ HR W c.W0.heap.size h3 c.n3 hNil
  d12 : m1 = true → m2 = true → h1 ≠ h2
  d13 : m1 = true → m3 = true → h1 ≠ h3
  d23 : m2 = true → m3 = true → h2 ≠ h3
  t1 : 1 ≤ l → a.tmps.getD 11 undef = .slice (some ⟨h1, 0, none⟩) c.n1 c.n1
  t2 : 2 ≤ l → a.tmps.getD 12 undef = .slice (some ⟨h2, 0, none⟩) c.n2 c.n2
  t3 : 3 ≤ l → a.tmps.getD 13 undef = .slice (some ⟨h3, 0, none⟩) c.n3 c.n3
structure Mc.Ok (c : Mc) (a0 : Act) : Prop where
  size : 107 < a0.tmps.size
  e57 : a0.eval (.tmp 57) = .int .i64 (c.n1 : Int)
  e59 : a0.eval (.tmp 59) = .int .i64 (c.n2 : Int)
  e61 : a0.eval (.tmp 61) = .int .i64 (c.n3 : Int)
  l1 : c.n1 ≤ 1000000
  l2 : c.n2 ≤ 1000000
  l3 : c.n3 ≤ 1000000
section
variable {c : Mc} {a0 a : Act} {W W' : World} {m1 m2 m3 : Bool} {l h1 h2 h3 : Nat} (hc : c.Ok a0)
include hc
theorem Sm.mk1 (h : Sm c a0 false m2 m3 l h1 h2 h3 a W) (hl : l ≤ 0) (hr : HR W' c.W0.heap.size W.heap.size c.n1 hNil) (hb : Below W.heap.size W W') : Sm c a0 true m2 m3 l W.heap.size h2 h3 (a.put (some 58) (.slice (some ⟨W.heap.size, 0, none⟩) c.n1 c.n1)) W' :=
  ⟨h.agr.put 58 (by decide) _, h.bel.trans (hb.mono h.bel.size), fun _ => ⟨put_same _ _ _ (by rw [h.agr.size]; have := hc.size; omega), hr⟩, fun e => ⟨by rw [put_ne _ _ _ _ (by decide)]; exact (h.e2 e).1, (h.e2 e).2.later hb⟩, fun e => ⟨by rw [put_ne _ _ _ _ (by decide)]; exact (h.e3 e).1, (h.e3 e).2.later hb⟩, fun _ e => Nat.ne_of_gt (h.e2 e).2.lt.2, fun _ e => Nat.ne_of_gt (h.e3 e).2.lt.2, h.d23, fun e => absurd e (by omega), fun e => absurd e (by omega), fun e => absurd e (by omega)⟩
theorem Sm.mk2 (h : Sm c a0 m1 false m3 l h1 h2 h3 a W) (hl : l ≤ 1) (hr : HR W' c.W0.heap.size W.heap.size c.n2 hNil) (hb : Below W.heap.size W W') : Sm c a0 m1 true m3 l h1 W.heap.size h3 (a.put (some 60) (.slice (some ⟨W.heap.size, 0, none⟩) c.n2 c.n2)) W' :=
  ⟨h.agr.put 60 (by decide) _, h.bel.trans (hb.mono h.bel.size), fun e => ⟨by rw [put_ne _ _ _ _ (by decide)]; exact (h.e1 e).1, (h.e1 e).2.later hb⟩, fun _ => ⟨put_same _ _ _ (by rw [h.agr.size]; have := hc.size; omega), hr⟩, fun e => ⟨by rw [put_ne _ _ _ _ (by decide)]; exact (h.e3 e).1, (h.e3 e).2.later hb⟩, fun e _ => Nat.ne_of_lt (h.e1 e).2.lt.2, h.d13, fun _ e => Nat.ne_of_gt (h.e3 e).2.lt.2, fun e => by rw [put_ne _ _ _ _ (by decide)]; exact h.t1 e, fun e => absurd e (by omega), fun e => absurd e (by omega)⟩
theorem Sm.mk3 (h : Sm c a0 m1 m2 false l h1 h2 h3 a W) (hl : l ≤ 2) (hr : HR W' c.W0.heap.size W.heap.size c.n3 hNil) (hb : Below W.heap.size W W') : Sm c a0 m1 m2 true l h1 h2 W.heap.size (a.put (some 62) (.slice (some ⟨W.heap.size, 0, none⟩) c.n3 c.n3)) W' :=
  ⟨h.agr.put 62 (by decide) _, h.bel.trans (hb.mono h.bel.size), fun e => ⟨by rw [put_ne _ _ _ _ (by decide)]; exact (h.e1 e).1, (h.e1 e).2.later hb⟩, fun e => ⟨by rw [put_ne _ _ _ _ (by decide)]; exact (h.e2 e).1, (h.e2 e).2.later hb⟩, fun _ => ⟨put_same _ _ _ (by rw [h.agr.size]; have := hc.size; omega), hr⟩, h.d12, fun e _ => Nat.ne_of_lt (h.e1 e).2.lt.2, fun e _ => Nat.ne_of_lt (h.e2 e).2.lt.2, fun e => by rw [put_ne _ _ _ _ (by decide)]; exact h.t1 e, fun e => by rw [put_ne _ _ _ _ (by decide)]; exact h.t2 e, fun e => absurd e (by omega)⟩
theorem Sm.as1 (h : Sm c a0 m1 m2 m3 0 h1 h2 h3 a W) : Sm c a0 m1 m2 m3 1 h1 h2 h3 (a.put (some 11) (.slice (some ⟨h1, 0, none⟩) c.n1 c.n1)) W :=
  ⟨h.agr.put 11 (by decide) _, h.bel, fun e => ⟨by rw [put_ne _ _ _ _ (by decide)]; exact (h.e1 e).1, (h.e1 e).2⟩, fun e => ⟨by rw [put_ne _ _ _ _ (by decide)]; exact (h.e2 e).1, (h.e2 e).2⟩, fun e => ⟨by rw [put_ne _ _ _ _ (by decide)]; exact (h.e3 e).1, (h.e3 e).2⟩, h.d12, h.d13, h.d23, fun _ => put_same _ _ _ (by rw [h.agr.size]; have := hc.size; omega), fun e => absurd e (by omega), fun e => absurd e (by omega)⟩
theorem Sm.as2 (h : Sm c a0 m1 m2 m3 1 h1 h2 h3 a W) : Sm c a0 m1 m2 m3 2 h1 h2 h3 (a.put (some 12) (.slice (some ⟨h2, 0, none⟩) c.n2 c.n2)) W :=
  ⟨h.agr.put 12 (by decide) _, h.bel, fun e => ⟨by rw [put_ne _ _ _ _ (by decide)]; exact (h.e1 e).1, (h.e1 e).2⟩, fun e => ⟨by rw [put_ne _ _ _ _ (by decide)]; exact (h.e2 e).1, (h.e2 e).2⟩, fun e => ⟨by rw [put_ne _ _ _ _ (by decide)]; exact (h.e3 e).1, (h.e3 e).2⟩, h.d12, h.d13, h.d23, fun _ => by rw [put_ne _ _ _ _ (by decide)]; exact h.t1 (by omega), fun _ => put_same _ _ _ (by rw [h.agr.size]; have := hc.size; omega), fun e => absurd e (by omega)⟩
theorem Sm.as3 (h : Sm c a0 m1 m2 m3 2 h1 h2 h3 a W) : Sm c a0 m1 m2 m3 3 h1 h2 h3 (a.put (some 13) (.slice (some ⟨h3, 0, none⟩) c.n3 c.n3)) W :=
  ⟨h.agr.put 13 (by decide) _, h.bel, fun e => ⟨by rw [put_ne _ _ _ _ (by decide)]; exact (h.e1 e).1, (h.e1 e).2⟩, fun e => ⟨by rw [put_ne _ _ _ _ (by decide)]; exact (h.e2 e).1, (h.e2 e).2⟩, fun e => ⟨by rw [put_ne _ _ _ _ (by decide)]; exact (h.e3 e).1, (h.e3 e).2⟩, h.d12, h.d13, h.d23, fun _ => by rw [put_ne _ _ _ _ (by decide)]; exact h.t1 (by omega), fun _ => by rw [put_ne _ _ _ _ (by decide)]; exact h.t2 (by omega), fun _ => put_same _ _ _ (by rw [h.agr.size]; have := hc.size; omega)⟩
omit hc in
theorem Agm.at {a0 a : Act} (h : Agm a0 a) (k : Nat) (hk : k ≠ 58 ∧ k ≠ 60 ∧ k ≠ 62 ∧ k ≠ 11 ∧ k ≠ 12 ∧ k ≠ 13) : a.eval (.tmp k) = a0.eval (.tmp k) := h.rest k hk.1 hk.2.1 hk.2.2.1 hk.2.2.2.1 hk.2.2.2.2.1 hk.2.2.2.2.2
end
section
variable {ops : Array Oper} {o : Oper} {a : Act} {K : Act → World → Prop} {Q : Exit → Act → World → Prop} {X : Prop}
/-- A variable is set, at a step of a region that draws. -/
theorem step_as {W : World} (hgd : o.guard = none) (x : Operand) (ho : o.op = .assign x) (v : Value) (hx : a.eval x = v) (h : K (a.put o.dst v) W) :
    if Region.wanted o (yielded ops a.tmps) = true then Oper.wp Tryz.prog o a W K Q else X := by
  have hw : Region.wanted o (yielded ops a.tmps) = true := by simp [Region.wanted, hgd]
  rw [if_pos hw]
  unfold Oper.wp
  simp [execOp, ho, hx, Result.andThen]
  exact h
end
def Lsm (m1 m2 m3 : Bool) (l : Nat) : Array Bool := #[true, true, true, m1, true, m2, true, m3, decide (1 ≤ l), decide (2 ≤ l), decide (3 ≤ l)]
structure IsM (ops : Array Oper) (i src dst : Nat) : Prop where
  ex : ∃ o, ops[i]? = some o ∧ o.op = .makeSlice 59 (.tmp src) (.tmp src) ∧ o.dst = some dst ∧ o.guard = none
structure IsS (ops : Array Oper) (i src dst : Nat) : Prop where
  ex : ∃ o, ops[i]? = some o ∧ o.op = .assign (.tmp src) ∧ o.dst = some dst ∧ o.guard = none
def rdmOk (ops : Array Oper) : Bool := (Region.ready .any ops (Lsm true true true 2) == [10]) && (Region.ready .any ops (Lsm true true false 2) == [7]) && (Region.ready .any ops (Lsm true true true 1) == [9]) && (Region.ready .any ops (Lsm true false true 1) == [5]) && (Region.ready .any ops (Lsm true true false 1) == [7, 9]) && (Region.ready .any ops (Lsm true true true 0) == [8]) && (Region.ready .any ops (Lsm false true true 0) == [3]) && (Region.ready .any ops (Lsm true false false 1) == [5, 7]) && (Region.ready .any ops (Lsm true false true 0) == [5, 8]) && (Region.ready .any ops (Lsm true true false 0) == [7, 8]) && (Region.ready .any ops (Lsm false false true 0) == [3, 5]) && (Region.ready .any ops (Lsm false true false 0) == [3, 7]) && (Region.ready .any ops (Lsm true false false 0) == [5, 7, 8]) && (Region.ready .any ops (Lsm false false false 0) == [3, 5, 7])
set_option maxHeartbeats 4000000 in
theorem make3 {ops : Array Oper} {Q : Exit → Act → World → Prop} {S1 S2 : World → Prop} {c : Mc} {a0 : Act} (hc : c.Ok a0) (hrd : rdmOk ops = true)
    (i3 : IsM ops 3 57 58) (i5 : IsM ops 5 59 60) (i7 : IsM ops 7 61 62) (i8 : IsS ops 8 58 11) (i9 : IsS ops 9 60 12) (i10 : IsS ops 10 62 13) (hS : ∀ W, S1 W ∧ S2 W)
    (hfin : ∀ W' h1 h2 h3 a, Sm c a0 true true true 3 h1 h2 h3 a W' → wpAnyG Tryz.prog .any ops Q S1 S2 99 0 (Lsm true true true 3) a W') :
    wpAnyG Tryz.prog .any ops Q S1 S2 99 6 (Lsm false false false 0) a0 c.W0 := by
  unfold rdmOk at hrd
  simp only [Bool.and_eq_true, beq_iff_eq] at hrd
  obtain ⟨⟨⟨⟨⟨⟨⟨⟨⟨⟨⟨⟨⟨rJttt2, rJttf2⟩, rJttt1⟩, rJtft1⟩, rJttf1⟩, rJttt0⟩, rJftt0⟩, rJtff1⟩, rJtft0⟩, rJttf0⟩, rJfft0⟩, rJftf0⟩, rJtff0⟩, rJfff0⟩ := hrd
  obtain ⟨o3, p3, q3, d3, g3⟩ := i3.ex
  obtain ⟨o5, p5, q5, d5, g5⟩ := i5.ex
  obtain ⟨o7, p7, q7, d7, g7⟩ := i7.ex
  obtain ⟨o8, p8, q8, d8, g8⟩ := i8.ex
  obtain ⟨o9, p9, q9, d9, g9⟩ := i9.ex
  obtain ⟨o10, p10, q10, d10, g10⟩ := i10.ex
  have Jttt3 := hfin
  have Jttt2 : ∀ W h1 h2 h3 a, Sm c a0 true true true 2 h1 h2 h3 a W → wpAnyG Tryz.prog .any ops Q S1 S2 99 1 (Lsm true true true 2) a W := fun W h1 h2 h3 a h => by
    refine wpAnyG_ready rJttt2 (by simp) ?_
    refine AllG.cons p10 (fun K hK => ?_) ?_
    · refine step_as g10 (.tmp 62) q10 _ (h.e3 rfl).1 ?_
      rw [d10]
      exact hK.out _ _ ⟨(hS _).1, .inr (hS _).2⟩ (fun _ => Jttt3 _ _ _ _ _ (Sm.as3 hc h))
    exact AllG.nil
  have Jttf2 : ∀ W h1 h2 h3 a, Sm c a0 true true false 2 h1 h2 h3 a W → wpAnyG Tryz.prog .any ops Q S1 S2 99 2 (Lsm true true false 2) a W := fun W h1 h2 h3 a h => by
    refine wpAnyG_ready rJttf2 (by simp) ?_
    refine AllG.cons p7 (fun K hK => ?_) ?_
    · refine step_mk g7 (.tmp 61) (.tmp 61) q7 c.W0.heap.size c.n3 ((h.agr.at 61 (by decide)).trans hc.e61) ((h.agr.at 61 (by decide)).trans hc.e61) hc.l3 h.bel.size ?_
      intro w' hm hb hl
      rw [d7]
      exact hK.out _ _ ⟨(hS _).1, .inr (hS _).2⟩ (fun _ => Jttt2 _ _ _ _ _ (Sm.mk3 hc h (by decide) hm hb))
    exact AllG.nil
  have Jttt1 : ∀ W h1 h2 h3 a, Sm c a0 true true true 1 h1 h2 h3 a W → wpAnyG Tryz.prog .any ops Q S1 S2 99 2 (Lsm true true true 1) a W := fun W h1 h2 h3 a h => by
    refine wpAnyG_ready rJttt1 (by simp) ?_
    refine AllG.cons p9 (fun K hK => ?_) ?_
    · refine step_as g9 (.tmp 60) q9 _ (h.e2 rfl).1 ?_
      rw [d9]
      exact hK.out _ _ ⟨(hS _).1, .inr (hS _).2⟩ (fun _ => Jttt2 _ _ _ _ _ (Sm.as2 hc h))
    exact AllG.nil
  have Jtft1 : ∀ W h1 h2 h3 a, Sm c a0 true false true 1 h1 h2 h3 a W → wpAnyG Tryz.prog .any ops Q S1 S2 99 3 (Lsm true false true 1) a W := fun W h1 h2 h3 a h => by
    refine wpAnyG_ready rJtft1 (by simp) ?_
    refine AllG.cons p5 (fun K hK => ?_) ?_
    · refine step_mk g5 (.tmp 59) (.tmp 59) q5 c.W0.heap.size c.n2 ((h.agr.at 59 (by decide)).trans hc.e59) ((h.agr.at 59 (by decide)).trans hc.e59) hc.l2 h.bel.size ?_
      intro w' hm hb hl
      rw [d5]
      exact hK.out _ _ ⟨(hS _).1, .inr (hS _).2⟩ (fun _ => Jttt1 _ _ _ _ _ (Sm.mk2 hc h (by decide) hm hb))
    exact AllG.nil
  have Jttf1 : ∀ W h1 h2 h3 a, Sm c a0 true true false 1 h1 h2 h3 a W → wpAnyG Tryz.prog .any ops Q S1 S2 99 3 (Lsm true true false 1) a W := fun W h1 h2 h3 a h => by
    refine wpAnyG_ready rJttf1 (by simp) ?_
    refine AllG.cons p7 (fun K hK => ?_) ?_
    · refine step_mk g7 (.tmp 61) (.tmp 61) q7 c.W0.heap.size c.n3 ((h.agr.at 61 (by decide)).trans hc.e61) ((h.agr.at 61 (by decide)).trans hc.e61) hc.l3 h.bel.size ?_
      intro w' hm hb hl
      rw [d7]
      exact hK.out _ _ ⟨(hS _).1, .inr (hS _).2⟩ (fun _ => Jttt1 _ _ _ _ _ (Sm.mk3 hc h (by decide) hm hb))
    refine AllG.cons p9 (fun K hK => ?_) ?_
    · refine step_as g9 (.tmp 60) q9 _ (h.e2 rfl).1 ?_
      rw [d9]
      exact hK.out _ _ ⟨(hS _).1, .inr (hS _).2⟩ (fun _ => Jttf2 _ _ _ _ _ (Sm.as2 hc h))
    exact AllG.nil
  have Jttt0 : ∀ W h1 h2 h3 a, Sm c a0 true true true 0 h1 h2 h3 a W → wpAnyG Tryz.prog .any ops Q S1 S2 99 3 (Lsm true true true 0) a W := fun W h1 h2 h3 a h => by
    refine wpAnyG_ready rJttt0 (by simp) ?_
    refine AllG.cons p8 (fun K hK => ?_) ?_
    · refine step_as g8 (.tmp 58) q8 _ (h.e1 rfl).1 ?_
      rw [d8]
      exact hK.out _ _ ⟨(hS _).1, .inr (hS _).2⟩ (fun _ => Jttt1 _ _ _ _ _ (Sm.as1 hc h))
    exact AllG.nil
  have Jftt0 : ∀ W h1 h2 h3 a, Sm c a0 false true true 0 h1 h2 h3 a W → wpAnyG Tryz.prog .any ops Q S1 S2 99 4 (Lsm false true true 0) a W := fun W h1 h2 h3 a h => by
    refine wpAnyG_ready rJftt0 (by simp) ?_
    refine AllG.cons p3 (fun K hK => ?_) ?_
    · refine step_mk g3 (.tmp 57) (.tmp 57) q3 c.W0.heap.size c.n1 ((h.agr.at 57 (by decide)).trans hc.e57) ((h.agr.at 57 (by decide)).trans hc.e57) hc.l1 h.bel.size ?_
      intro w' hm hb hl
      rw [d3]
      exact hK.out _ _ ⟨(hS _).1, .inr (hS _).2⟩ (fun _ => Jttt0 _ _ _ _ _ (Sm.mk1 hc h (by decide) hm hb))
    exact AllG.nil
  have Jtff1 : ∀ W h1 h2 h3 a, Sm c a0 true false false 1 h1 h2 h3 a W → wpAnyG Tryz.prog .any ops Q S1 S2 99 4 (Lsm true false false 1) a W := fun W h1 h2 h3 a h => by
    refine wpAnyG_ready rJtff1 (by simp) ?_
    refine AllG.cons p5 (fun K hK => ?_) ?_
    · refine step_mk g5 (.tmp 59) (.tmp 59) q5 c.W0.heap.size c.n2 ((h.agr.at 59 (by decide)).trans hc.e59) ((h.agr.at 59 (by decide)).trans hc.e59) hc.l2 h.bel.size ?_
      intro w' hm hb hl
      rw [d5]
      exact hK.out _ _ ⟨(hS _).1, .inr (hS _).2⟩ (fun _ => Jttf1 _ _ _ _ _ (Sm.mk2 hc h (by decide) hm hb))
    refine AllG.cons p7 (fun K hK => ?_) ?_
    · refine step_mk g7 (.tmp 61) (.tmp 61) q7 c.W0.heap.size c.n3 ((h.agr.at 61 (by decide)).trans hc.e61) ((h.agr.at 61 (by decide)).trans hc.e61) hc.l3 h.bel.size ?_
      intro w' hm hb hl
      rw [d7]
      exact hK.out _ _ ⟨(hS _).1, .inr (hS _).2⟩ (fun _ => Jtft1 _ _ _ _ _ (Sm.mk3 hc h (by decide) hm hb))
    exact AllG.nil
  have Jtft0 : ∀ W h1 h2 h3 a, Sm c a0 true false true 0 h1 h2 h3 a W → wpAnyG Tryz.prog .any ops Q S1 S2 99 4 (Lsm true false true 0) a W := fun W h1 h2 h3 a h => by
    refine wpAnyG_ready rJtft0 (by simp) ?_
    refine AllG.cons p5 (fun K hK => ?_) ?_
    · refine step_mk g5 (.tmp 59) (.tmp 59) q5 c.W0.heap.size c.n2 ((h.agr.at 59 (by decide)).trans hc.e59) ((h.agr.at 59 (by decide)).trans hc.e59) hc.l2 h.bel.size ?_
      intro w' hm hb hl
      rw [d5]
      exact hK.out _ _ ⟨(hS _).1, .inr (hS _).2⟩ (fun _ => Jttt0 _ _ _ _ _ (Sm.mk2 hc h (by decide) hm hb))
    refine AllG.cons p8 (fun K hK => ?_) ?_
    · refine step_as g8 (.tmp 58) q8 _ (h.e1 rfl).1 ?_
      rw [d8]
      exact hK.out _ _ ⟨(hS _).1, .inr (hS _).2⟩ (fun _ => Jtft1 _ _ _ _ _ (Sm.as1 hc h))
    exact AllG.nil
  have Jttf0 : ∀ W h1 h2 h3 a, Sm c a0 true true false 0 h1 h2 h3 a W → wpAnyG Tryz.prog .any ops Q S1 S2 99 4 (Lsm true true false 0) a W := fun W h1 h2 h3 a h => by
    refine wpAnyG_ready rJttf0 (by simp) ?_
    refine AllG.cons p7 (fun K hK => ?_) ?_
    · refine step_mk g7 (.tmp 61) (.tmp 61) q7 c.W0.heap.size c.n3 ((h.agr.at 61 (by decide)).trans hc.e61) ((h.agr.at 61 (by decide)).trans hc.e61) hc.l3 h.bel.size ?_
      intro w' hm hb hl
      rw [d7]
      exact hK.out _ _ ⟨(hS _).1, .inr (hS _).2⟩ (fun _ => Jttt0 _ _ _ _ _ (Sm.mk3 hc h (by decide) hm hb))
    refine AllG.cons p8 (fun K hK => ?_) ?_
    · refine step_as g8 (.tmp 58) q8 _ (h.e1 rfl).1 ?_
      rw [d8]
      exact hK.out _ _ ⟨(hS _).1, .inr (hS _).2⟩ (fun _ => Jttf1 _ _ _ _ _ (Sm.as1 hc h))
    exact AllG.nil
  have Jfft0 : ∀ W h1 h2 h3 a, Sm c a0 false false true 0 h1 h2 h3 a W → wpAnyG Tryz.prog .any ops Q S1 S2 99 5 (Lsm false false true 0) a W := fun W h1 h2 h3 a h => by
    refine wpAnyG_ready rJfft0 (by simp) ?_
    refine AllG.cons p3 (fun K hK => ?_) ?_
    · refine step_mk g3 (.tmp 57) (.tmp 57) q3 c.W0.heap.size c.n1 ((h.agr.at 57 (by decide)).trans hc.e57) ((h.agr.at 57 (by decide)).trans hc.e57) hc.l1 h.bel.size ?_
      intro w' hm hb hl
      rw [d3]
      exact hK.out _ _ ⟨(hS _).1, .inr (hS _).2⟩ (fun _ => Jtft0 _ _ _ _ _ (Sm.mk1 hc h (by decide) hm hb))
    refine AllG.cons p5 (fun K hK => ?_) ?_
    · refine step_mk g5 (.tmp 59) (.tmp 59) q5 c.W0.heap.size c.n2 ((h.agr.at 59 (by decide)).trans hc.e59) ((h.agr.at 59 (by decide)).trans hc.e59) hc.l2 h.bel.size ?_
      intro w' hm hb hl
      rw [d5]
      exact hK.out _ _ ⟨(hS _).1, .inr (hS _).2⟩ (fun _ => Jftt0 _ _ _ _ _ (Sm.mk2 hc h (by decide) hm hb))
    exact AllG.nil
  have Jftf0 : ∀ W h1 h2 h3 a, Sm c a0 false true false 0 h1 h2 h3 a W → wpAnyG Tryz.prog .any ops Q S1 S2 99 5 (Lsm false true false 0) a W := fun W h1 h2 h3 a h => by
    refine wpAnyG_ready rJftf0 (by simp) ?_
    refine AllG.cons p3 (fun K hK => ?_) ?_
    · refine step_mk g3 (.tmp 57) (.tmp 57) q3 c.W0.heap.size c.n1 ((h.agr.at 57 (by decide)).trans hc.e57) ((h.agr.at 57 (by decide)).trans hc.e57) hc.l1 h.bel.size ?_
      intro w' hm hb hl
      rw [d3]
      exact hK.out _ _ ⟨(hS _).1, .inr (hS _).2⟩ (fun _ => Jttf0 _ _ _ _ _ (Sm.mk1 hc h (by decide) hm hb))
    refine AllG.cons p7 (fun K hK => ?_) ?_
    · refine step_mk g7 (.tmp 61) (.tmp 61) q7 c.W0.heap.size c.n3 ((h.agr.at 61 (by decide)).trans hc.e61) ((h.agr.at 61 (by decide)).trans hc.e61) hc.l3 h.bel.size ?_
      intro w' hm hb hl
      rw [d7]
      exact hK.out _ _ ⟨(hS _).1, .inr (hS _).2⟩ (fun _ => Jftt0 _ _ _ _ _ (Sm.mk3 hc h (by decide) hm hb))
    exact AllG.nil
  have Jtff0 : ∀ W h1 h2 h3 a, Sm c a0 true false false 0 h1 h2 h3 a W → wpAnyG Tryz.prog .any ops Q S1 S2 99 5 (Lsm true false false 0) a W := fun W h1 h2 h3 a h => by
    refine wpAnyG_ready rJtff0 (by simp) ?_
    refine AllG.cons p5 (fun K hK => ?_) ?_
    · refine step_mk g5 (.tmp 59) (.tmp 59) q5 c.W0.heap.size c.n2 ((h.agr.at 59 (by decide)).trans hc.e59) ((h.agr.at 59 (by decide)).trans hc.e59) hc.l2 h.bel.size ?_
      intro w' hm hb hl
      rw [d5]
      exact hK.out _ _ ⟨(hS _).1, .inr (hS _).2⟩ (fun _ => Jttf0 _ _ _ _ _ (Sm.mk2 hc h (by decide) hm hb))
    refine AllG.cons p7 (fun K hK => ?_) ?_
    · refine step_mk g7 (.tmp 61) (.tmp 61) q7 c.W0.heap.size c.n3 ((h.agr.at 61 (by decide)).trans hc.e61) ((h.agr.at 61 (by decide)).trans hc.e61) hc.l3 h.bel.size ?_
      intro w' hm hb hl
      rw [d7]
      exact hK.out _ _ ⟨(hS _).1, .inr (hS _).2⟩ (fun _ => Jtft0 _ _ _ _ _ (Sm.mk3 hc h (by decide) hm hb))
    refine AllG.cons p8 (fun K hK => ?_) ?_
    · refine step_as g8 (.tmp 58) q8 _ (h.e1 rfl).1 ?_
      rw [d8]
      exact hK.out _ _ ⟨(hS _).1, .inr (hS _).2⟩ (fun _ => Jtff1 _ _ _ _ _ (Sm.as1 hc h))
    exact AllG.nil
  have Jfff0 : ∀ W h1 h2 h3 a, Sm c a0 false false false 0 h1 h2 h3 a W → wpAnyG Tryz.prog .any ops Q S1 S2 99 6 (Lsm false false false 0) a W := fun W h1 h2 h3 a h => by
    refine wpAnyG_ready rJfff0 (by simp) ?_
    refine AllG.cons p3 (fun K hK => ?_) ?_
    · refine step_mk g3 (.tmp 57) (.tmp 57) q3 c.W0.heap.size c.n1 ((h.agr.at 57 (by decide)).trans hc.e57) ((h.agr.at 57 (by decide)).trans hc.e57) hc.l1 h.bel.size ?_
      intro w' hm hb hl
      rw [d3]
      exact hK.out _ _ ⟨(hS _).1, .inr (hS _).2⟩ (fun _ => Jtff0 _ _ _ _ _ (Sm.mk1 hc h (by decide) hm hb))
    refine AllG.cons p5 (fun K hK => ?_) ?_
    · refine step_mk g5 (.tmp 59) (.tmp 59) q5 c.W0.heap.size c.n2 ((h.agr.at 59 (by decide)).trans hc.e59) ((h.agr.at 59 (by decide)).trans hc.e59) hc.l2 h.bel.size ?_
      intro w' hm hb hl
      rw [d5]
      exact hK.out _ _ ⟨(hS _).1, .inr (hS _).2⟩ (fun _ => Jftf0 _ _ _ _ _ (Sm.mk2 hc h (by decide) hm hb))
    refine AllG.cons p7 (fun K hK => ?_) ?_
    · refine step_mk g7 (.tmp 61) (.tmp 61) q7 c.W0.heap.size c.n3 ((h.agr.at 61 (by decide)).trans hc.e61) ((h.agr.at 61 (by decide)).trans hc.e61) hc.l3 h.bel.size ?_
      intro w' hm hb hl
      rw [d7]
      exact hK.out _ _ ⟨(hS _).1, .inr (hS _).2⟩ (fun _ => Jfft0 _ _ _ _ _ (Sm.mk3 hc h (by decide) hm hb))
    exact AllG.nil
  exact Jfff0 _ 0 0 0 _ ⟨⟨rfl, rfl, fun _ _ _ _ _ _ _ => rfl⟩, Below.refl _ _, fun e => (by cases e), fun e => (by cases e), fun e => (by cases e), fun e => (by cases e), fun e => (by cases e), fun e => (by cases e), fun e => absurd e (by decide), fun e => absurd e (by decide), fun e => absurd e (by decide)⟩
end Go.Proofs.YtmapagbmihpbmaaGreatDoor
