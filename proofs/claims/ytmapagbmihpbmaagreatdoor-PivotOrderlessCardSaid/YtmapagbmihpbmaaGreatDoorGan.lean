/- pivot.Make: three rows of headers are made, in any order. -/
import Derived.Test.YtmapagbmihpbmaaGreatDoorGaj
import Derived.Test.YtmapagbmihpbmaaGreatDoorGab
import Derived.Test.YtmapagbmihpbmaaGreatDoorGak
import Derived.Test.YtmapagbmihpbmaaGreatDoorGam
import Derived.Deep.DeepCutAuto
import Derived.Deep.Cut
import Derived.Deep.CutBlock
set_option linter.unusedSimpArgs false
set_option linter.unusedVariables false
namespace Go.Proofs.YtmapagbmihpbmaaGreatDoor
open Go.RowKit

/-- The act but for what the three makes put. -/
structure Agm (a0 a : Act) : Prop where
  defers : a.defers = a0.defers
  size : a.tmps.size = a0.tmps.size
  rest : ∀ k, k ≠ 58 → k ≠ 60 → k ≠ 62 → k ≠ 11 → k ≠ 12 → k ≠ 13 → a.tmps.getD k undef = a0.tmps.getD k undef
theorem Agm.put {a0 a : Act} (h : Agm a0 a) (d : Nat) (hd : d = 58 ∨ d = 60 ∨ d = 62 ∨ d = 11 ∨ d = 12 ∨ d = 13) (v : Value) : Agm a0 (a.put (some d) v) :=
  ⟨h.defers, by simpa [Act.put] using h.size, fun k h58 h60 h62 h11 h12 h13 => by
    rw [put_ne _ _ _ _ (by omega)]
    exact h.rest k h58 h60 h62 h11 h12 h13⟩
set_option maxHeartbeats 4000000 in
theorem Agm.eq {a0 a : Act} (h : Agm a0 a) (hs : 107 < a0.tmps.size) {x58 x60 x62 x11 x12 x13 : Value} (e58 : a.tmps.getD 58 undef = x58) (e60 : a.tmps.getD 60 undef = x60) (e62 : a.tmps.getD 62 undef = x62) (e11 : a.tmps.getD 11 undef = x11) (e12 : a.tmps.getD 12 undef = x12) (e13 : a.tmps.getD 13 undef = x13) : a = (((((a0.put (some 58) x58).put (some 60) x60).put (some 62) x62).put (some 11) x11).put (some 12) x12).put (some 13) x13 := by
  refine act_ext h.defers (by simp only [put_size, h.size]) fun k => ?_
  by_cases h13 : k = 13
  · rw [h13, e13, put_same _ _ _ (by (try simp only [put_size]); omega)]
  rw [put_ne _ _ _ _ h13]
  by_cases h12 : k = 12
  · rw [h12, e12, put_same _ _ _ (by (try simp only [put_size]); omega)]
  rw [put_ne _ _ _ _ h12]
  by_cases h11 : k = 11
  · rw [h11, e11, put_same _ _ _ (by (try simp only [put_size]); omega)]
  rw [put_ne _ _ _ _ h11]
  by_cases h62 : k = 62
  · rw [h62, e62, put_same _ _ _ (by (try simp only [put_size]); omega)]
  rw [put_ne _ _ _ _ h62]
  by_cases h60 : k = 60
  · rw [h60, e60, put_same _ _ _ (by (try simp only [put_size]); omega)]
  rw [put_ne _ _ _ _ h60]
  by_cases h58 : k = 58
  · rw [h58, e58, put_same _ _ _ (by (try simp only [put_size]); omega)]
  rw [put_ne _ _ _ _ h58]
  exact h.rest k h58 h60 h62 h11 h12 h13
structure Mc where
  W0 : World
  n1 : Nat
  n2 : Nat
  n3 : Nat
abbrev hNil : Nat → SV := fun _ => (none, 0, 0)
structure Sm (c : Mc) (a0 : Act) (m1 m2 m3 : Bool) (l : Nat) (h1 h2 h3 : Nat) (a : Act) (W : World) : Prop where
  agr : Agm a0 a
  bel : Below c.W0.heap.size c.W0 W
  e1 : m1 = true → a.tmps.getD 58 undef = .slice (some ⟨h1, 0, none⟩) c.n1 c.n1 ∧ HR W c.W0.heap.size h1 c.n1 hNil
  e2 : m2 = true → a.tmps.getD 60 undef = .slice (some ⟨h2, 0, none⟩) c.n2 c.n2 ∧ HR W c.W0.heap.size h2 c.n2 hNil
  e3 : m3 = true → a.tmps.getD 62 undef = .slice (some ⟨h3, 0, none⟩) c.n3 c.n3 ∧ HR W c.W0.heap.size h3 c.n3 hNil
  d12 : m1 = true → m2 = true → h1 ≠ h2
  d13 : m1 = true → m3 = true → h1 ≠ h3
  d23 : m2 = true → m3 = true → h2 ≠ h3
  t1 : 1 ≤ l → a.tmps.getD 11 undef = .slice (some ⟨h1, 0, none⟩) c.n1 c.n1
  t2 : 2 ≤ l → a.tmps.getD 12 undef = .slice (some ⟨h2, 0, none⟩) c.n2 c.n2
  t3 : 3 ≤ l → a.tmps.getD 13 undef = .slice (some ⟨h3, 0, none⟩) c.n3 c.n3
structure Mc.Ok (c : Mc) (a0 : Act) : Prop where
  size : 107 < a0.tmps.size
  e57 : a0.eval (.tmp 57) = .int .i64 (c.n1 : Int)
  e59 : a0.eval (.tmp 59) = .int .i64 (c.n2 : Int)
  e61 : a0.eval (.tmp 61) = .int .i64 (c.n3 : Int)
  l1 : c.n1 ≤ 1000000
  l2 : c.n2 ≤ 1000000
  l3 : c.n3 ≤ 1000000
section
variable {c : Mc} {a0 a : Act} {W W' : World} {m1 m2 m3 : Bool} {l h1 h2 h3 : Nat} (hc : c.Ok a0)
include hc
theorem Sm.mk1 (h : Sm c a0 false m2 m3 l h1 h2 h3 a W) (hl : l ≤ 0) (hr : HR W' c.W0.heap.size W.heap.size c.n1 hNil) (hb : Below W.heap.size W W') : Sm c a0 true m2 m3 l W.heap.size h2 h3 (a.put (some 58) (.slice (some ⟨W.heap.size, 0, none⟩) c.n1 c.n1)) W' :=
  ⟨h.agr.put 58 (by decide) _, h.bel.trans (hb.mono h.bel.size), fun _ => ⟨put_same _ _ _ (by rw [h.agr.size]; have := hc.size; omega), hr⟩, fun e => ⟨by rw [put_ne _ _ _ _ (by decide)]; exact (h.e2 e).1, (h.e2 e).2.later hb⟩, fun e => ⟨by rw [put_ne _ _ _ _ (by decide)]; exact (h.e3 e).1, (h.e3 e).2.later hb⟩, fun _ e => Nat.ne_of_gt (h.e2 e).2.lt.2, fun _ e => Nat.ne_of_gt (h.e3 e).2.lt.2, h.d23, fun e => absurd e (by omega), fun e => absurd e (by omega), fun e => absurd e (by omega)⟩
theorem Sm.mk2 (h : Sm c a0 m1 false m3 l h1 h2 h3 a W) (hl : l ≤ 1) (hr : HR W' c.W0.heap.size W.heap.size c.n2 hNil) (hb : Below W.heap.size W W') : Sm c a0 m1 true m3 l h1 W.heap.size h3 (a.put (some 60) (.slice (some ⟨W.heap.size, 0, none⟩) c.n2 c.n2)) W' :=
  ⟨h.agr.put 60 (by decide) _, h.bel.trans (hb.mono h.bel.size), fun e => ⟨by rw [put_ne _ _ _ _ (by decide)]; exact (h.e1 e).1, (h.e1 e).2.later hb⟩, fun _ => ⟨put_same _ _ _ (by rw [h.agr.size]; have := hc.size; omega), hr⟩, fun e => ⟨by rw [put_ne _ _ _ _ (by decide)]; exact (h.e3 e).1, (h.e3 e).2.later hb⟩, fun e _ => Nat.ne_of_lt (h.e1 e).2.lt.2, h.d13, fun _ e => Nat.ne_of_gt (h.e3 e).2.lt.2, fun e => by rw [put_ne _ _ _ _ (by decide)]; exact h.t1 e, fun e => absurd e (by omega), fun e => absurd e (by omega)⟩
theorem Sm.mk3 (h : Sm c a0 m1 m2 false l h1 h2 h3 a W) (hl : l ≤ 2) (hr : HR W' c.W0.heap.size W.heap.size c.n3 hNil) (hb : Below W.heap.size W W') : Sm c a0 m1 m2 true l h1 h2 W.heap.size (a.put (some 62) (.slice (some ⟨W.heap.size, 0, none⟩) c.n3 c.n3)) W' :=
  ⟨h.agr.put 62 (by decide) _, h.bel.trans (hb.mono h.bel.size), fun e => ⟨by rw [put_ne _ _ _ _ (by decide)]; exact (h.e1 e).1, (h.e1 e).2.later hb⟩, fun e => ⟨by rw [put_ne _ _ _ _ (by decide)]; exact (h.e2 e).1, (h.e2 e).2.later hb⟩, fun _ => ⟨put_same _ _ _ (by rw [h.agr.size]; have := hc.size; omega), hr⟩, h.d12, fun e _ => Nat.ne_of_lt (h.e1 e).2.lt.2, fun e _ => Nat.ne_of_lt (h.e2 e).2.lt.2, fun e => by rw [put_ne _ _ _ _ (by decide)]; exact h.t1 e, fun e => by rw [put_ne _ _ _ _ (by decide)]; exact h.t2 e, fun e => absurd e (by omega)⟩
theorem Sm.as1 (h : Sm c a0 m1 m2 m3 0 h1 h2 h3 a W) : Sm c a0 m1 m2 m3 1 h1 h2 h3 (a.put (some 11) (.slice (some ⟨h1, 0, none⟩) c.n1 c.n1)) W :=
  ⟨h.agr.put 11 (by decide) _, h.bel, fun e => ⟨by rw [put_ne _ _ _ _ (by decide)]; exact (h.e1 e).1, (h.e1 e).2⟩, fun e => ⟨by rw [put_ne _ _ _ _ (by decide)]; exact (h.e2 e).1, (h.e2 e).2⟩, fun e => ⟨by rw [put_ne _ _ _ _ (by decide)]; exact (h.e3 e).1, (h.e3 e).2⟩, h.d12, h.d13, h.d23, fun _ => put_same _ _ _ (by rw [h.agr.size]; have := hc.size; omega), fun e => absurd e (by omega), fun e => absurd e (by omega)⟩
theorem Sm.as2 (h : Sm c a0 m1 m2 m3 1 h1 h2 h3 a W) : Sm c a0 m1 m2 m3 2 h1 h2 h3 (a.put (some 12) (.slice (some ⟨h2, 0, none⟩) c.n2 c.n2)) W :=
  ⟨h.agr.put 12 (by decide) _, h.bel, fun e => ⟨by rw [put_ne _ _ _ _ (by decide)]; exact (h.e1 e).1, (h.e1 e).2⟩, fun e => ⟨by rw [put_ne _ _ _ _ (by decide)]; exact (h.e2 e).1, (h.e2 e).2⟩, fun e => ⟨by rw [put_ne _ _ _ _ (by decide)]; exact (h.e3 e).1, (h.e3 e).2⟩, h.d12, h.d13, h.d23, fun _ => by rw [put_ne _ _ _ _ (by decide)]; exact h.t1 (by omega), fun _ => put_same _ _ _ (by rw [h.agr.size]; have := hc.size; omega), fun e => absurd e (by omega)⟩
theorem Sm.as3 (h : Sm c a0 m1 m2 m3 2 h1 h2 h3 a W) : Sm c a0 m1 m2 m3 3 h1 h2 h3 (a.put (some 13) (.slice (some ⟨h3, 0, none⟩) c.n3 c.n3)) W :=
  ⟨h.agr.put 13 (by decide) _, h.bel, fun e => ⟨by rw [put_ne _ _ _ _ (by decide)]; exact (h.e1 e).1, (h.e1 e).2⟩, fun e => ⟨by rw [put_ne _ _ _ _ (by decide)]; exact (h.e2 e).1, (h.e2 e).2⟩, fun e => ⟨by rw [put_ne _ _ _ _ (by decide)]; exact (h.e3 e).1, (h.e3 e).2⟩, h.d12, h.d13, h.d23, fun _ => by rw [put_ne _ _ _ _ (by decide)]; exact h.t1 (by omega), fun _ => by rw [put_ne _ _ _ _ (by decide)]; exact h.t2 (by omega), fun _ => put_same _ _ _ (by rw [h.agr.size]; have := hc.size; omega)⟩
omit hc in
theorem Agm.at {a0 a : Act} (h : Agm a0 a) (k : Nat) (hk : k ≠ 58 ∧ k ≠ 60 ∧ k ≠ 62 ∧ k ≠ 11 ∧ k ≠ 12 ∧ k ≠ 13) : a.eval (.tmp k) = a0.eval (.tmp k) := h.rest k hk.1 hk.2.1 hk.2.2.1 hk.2.2.2.1 hk.2.2.2.2.1 hk.2.2.2.2.2
end
section
variable {ops : Array Oper} {o : Oper} {a : Act} {K : Act → World → Prop} {Q : Exit → Act → World → Prop} {X : Prop}
/-- A variable is set, at a step of a region that draws. -/
theorem step_as {W : World} (hgd : o.guard = none) (x : Operand) (ho : o.op = .assign x) (v : Value) (hx : a.eval x = v) (h : K (a.put o.dst v) W) :
    if Region.wanted o (yielded ops a.tmps) = true then Oper.wp Tryz.prog o a W K Q else X := by
  have hw : Region.wanted o (yielded ops a.tmps) = true := by simp [Region.wanted, hgd]
  rw [if_pos hw]
  unfold Oper.wp
  simp [execOp, ho, hx, Result.andThen]
  exact h
end
def Lsm (m1 m2 m3 : Bool) (l : Nat) : Array Bool := #[true, true, true, m1, true, m2, true, m3, decide (1 ≤ l), decide (2 ≤ l), decide (3 ≤ l)]
structure IsM (ops : Array Oper) (i src dst : Nat) : Prop where
  ex : ∃ o, ops[i]? = some o ∧ o.op = .makeSlice 59 (.tmp src) (.tmp src) ∧ o.dst = some dst ∧ o.guard = none
structure IsS (ops : Array Oper) (i src dst : Nat) : Prop where
  ex : ∃ o, ops[i]? = some o ∧ o.op = .assign (.tmp src) ∧ o.dst = some dst ∧ o.guard = none
def rdmOk (ops : Array Oper) : Bool := (Region.ready .any ops (Lsm true true true 2) == [10]) && (Region.ready .any ops (Lsm true true false 2) == [7]) && (Region.ready .any ops (Lsm true true true 1) == [9]) && (Region.ready .any ops (Lsm true false true 1) == [5]) && (Region.ready .any ops (Lsm true true false 1) == [7, 9]) && (Region.ready .any ops (Lsm true true true 0) == [8]) && (Region.ready .any ops (Lsm false true true 0) == [3]) && (Region.ready .any ops (Lsm true false false 1) == [5, 7]) && (Region.ready .any ops (Lsm true false true 0) == [5, 8]) && (Region.ready .any ops (Lsm true true false 0) == [7, 8]) && (Region.ready .any ops (Lsm false false true 0) == [3, 5]) && (Region.ready .any ops (Lsm false true false 0) == [3, 7]) && (Region.ready .any ops (Lsm true false false 0) == [5, 7, 8]) && (Region.ready .any ops (Lsm false false false 0) == [3, 5, 7])
set_option maxHeartbeats 4000000 in
theorem make3 {ops : Array Oper} {Q : Exit → Act → World → Prop} {S1 S2 : World → Prop} {c : Mc} {a0 : Act} (hc : c.Ok a0) (hrd : rdmOk ops = true)
    (i3 : IsM ops 3 57 58) (i5 : IsM ops 5 59 60) (i7 : IsM ops 7 61 62) (i8 : IsS ops 8 58 11) (i9 : IsS ops 9 60 12) (i10 : IsS ops 10 62 13) (hS : ∀ W, S1 W ∧ S2 W)
    (hfin : ∀ W' h1 h2 h3 a, Sm c a0 true true true 3 h1 h2 h3 a W' → wpAnyG Tryz.prog .any ops Q S1 S2 99 0 (Lsm true true true 3) a W') :
    wpAnyG Tryz.prog .any ops Q S1 S2 99 6 (Lsm false false false 0) a0 c.W0 := by
  unfold rdmOk at hrd
  simp only [Bool.and_eq_true, beq_iff_eq] at hrd
  obtain ⟨⟨⟨⟨⟨⟨⟨⟨⟨⟨⟨⟨⟨rJttt2, rJttf2⟩, rJttt1⟩, rJtft1⟩, rJttf1⟩, rJttt0⟩, rJftt0⟩, rJtff1⟩, rJtft0⟩, rJttf0⟩, rJfft0⟩, rJftf0⟩, rJtff0⟩, rJfff0⟩ := hrd
  obtain ⟨o3, p3, q3, d3, g3⟩ := i3.ex
  obtain ⟨o5, p5, q5, d5, g5⟩ := i5.ex
  obtain ⟨o7, p7, q7, d7, g7⟩ := i7.ex
  obtain ⟨o8, p8, q8, d8, g8⟩ := i8.ex
  obtain ⟨o9, p9, q9, d9, g9⟩ := i9.ex
  obtain ⟨o10, p10, q10, d10, g10⟩ := i10.ex
  have Jttt3 := hfin
  have Jttt2 : ∀ W h1 h2 h3 a, Sm c a0 true true true 2 h1 h2 h3 a W → wpAnyG Tryz.prog .any ops Q S1 S2 99 1 (Lsm true true true 2) a W := fun W h1 h2 h3 a h => by
    refine wpAnyG_ready rJttt2 (by simp) ?_
    refine AllG.cons p10 (fun K hK => ?_) ?_
    · refine step_as g10 (.tmp 62) q10 _ (h.e3 rfl).1 ?_
      rw [d10]
      exact hK.out _ _ ⟨(hS _).1, .inr (hS _).2⟩ (fun _ => Jttt3 _ _ _ _ _ (Sm.as3 hc h))
    exact AllG.nil
  have Jttf2 : ∀ W h1 h2 h3 a, Sm c a0 true true false 2 h1 h2 h3 a W → wpAnyG Tryz.prog .any ops Q S1 S2 99 2 (Lsm true true false 2) a W := fun W h1 h2 h3 a h => by
    refine wpAnyG_ready rJttf2 (by simp) ?_
    refine AllG.cons p7 (fun K hK => ?_) ?_
    · refine step_mk g7 (.tmp 61) (.tmp 61) q7 c.W0.heap.size c.n3 ((h.agr.at 61 (by decide)).trans hc.e61) ((h.agr.at 61 (by decide)).trans hc.e61) hc.l3 h.bel.size ?_
      intro w' hm hb hl
      rw [d7]
      exact hK.out _ _ ⟨(hS _).1, .inr (hS _).2⟩ (fun _ => Jttt2 _ _ _ _ _ (Sm.mk3 hc h (by decide) hm hb))
    exact AllG.nil
  have Jttt1 : ∀ W h1 h2 h3 a, Sm c a0 true true true 1 h1 h2 h3 a W → wpAnyG Tryz.prog .any ops Q S1 S2 99 2 (Lsm true true true 1) a W := fun W h1 h2 h3 a h => by
    refine wpAnyG_ready rJttt1 (by simp) ?_
    refine AllG.cons p9 (fun K hK => ?_) ?_
    · refine step_as g9 (.tmp 60) q9 _ (h.e2 rfl).1 ?_
      rw [d9]
      exact hK.out _ _ ⟨(hS _).1, .inr (hS _).2⟩ (fun _ => Jttt2 _ _ _ _ _ (Sm.as2 hc h))
    exact AllG.nil
  have Jtft1 : ∀ W h1 h2 h3 a, Sm c a0 true false true 1 h1 h2 h3 a W → wpAnyG Tryz.prog .any ops Q S1 S2 99 3 (Lsm true false true 1) a W := fun W h1 h2 h3 a h => by
    refine wpAnyG_ready rJtft1 (by simp) ?_
    refine AllG.cons p5 (fun K hK => ?_) ?_
    · refine step_mk g5 (.tmp 59) (.tmp 59) q5 c.W0.heap.size c.n2 ((h.agr.at 59 (by decide)).trans hc.e59) ((h.agr.at 59 (by decide)).trans hc.e59) hc.l2 h.bel.size ?_
      intro w' hm hb hl
      rw [d5]
      exact hK.out _ _ ⟨(hS _).1, .inr (hS _).2⟩ (fun _ => Jttt1 _ _ _ _ _ (Sm.mk2 hc h (by decide) hm hb))
    exact AllG.nil
  have Jttf1 : ∀ W h1 h2 h3 a, Sm c a0 true true false 1 h1 h2 h3 a W → wpAnyG Tryz.prog .any ops Q S1 S2 99 3 (Lsm true true false 1) a W := fun W h1 h2 h3 a h => by
    refine wpAnyG_ready rJttf1 (by simp) ?_
    refine AllG.cons p7 (fun K hK => ?_) ?_
    · refine step_mk g7 (.tmp 61) (.tmp 61) q7 c.W0.heap.size c.n3 ((h.agr.at 61 (by decide)).trans hc.e61) ((h.agr.at 61 (by decide)).trans hc.e61) hc.l3 h.bel.size ?_
      intro w' hm hb hl
      rw [d7]
      exact hK.out _ _ ⟨(hS _).1, .inr (hS _).2⟩ (fun _ => Jttt1 _ _ _ _ _ (Sm.mk3 hc h (by decide) hm hb))
    refine AllG.cons p9 (fun K hK => ?_) ?_
    · refine step_as g9 (.tmp 60) q9 _ (h.e2 rfl).1 ?_
      rw [d9]
      exact hK.out _ _ ⟨(hS _).1, .inr (hS _).2⟩ (fun _ => Jttf2 _ _ _ _ _ (Sm.as2 hc h))
    exact AllG.nil
  have Jttt0 : ∀ W h1 h2 h3 a, Sm c a0 true true true 0 h1 h2 h3 a W → wpAnyG Tryz.prog .any ops Q S1 S2 99 3 (Lsm true true true 0) a W := fun W h1 h2 h3 a h => by
    refine wpAnyG_ready rJttt0 (by simp) ?_
    refine AllG.cons p8 (fun K hK => ?_) ?_
    · refine step_as g8 (.tmp 58) q8 _ (h.e1 rfl).1 ?_
      rw [d8]
      exact hK.out _ _ ⟨(hS _).1, .inr (hS _).2⟩ (fun _ => Jttt1 _ _ _ _ _ (Sm.as1 hc h))
    exact AllG.nil
  have Jftt0 : ∀ W h1 h2 h3 a, Sm c a0 false true true 0 h1 h2 h3 a W → wpAnyG Tryz.prog .any ops Q S1 S2 99 4 (Lsm false true true 0) a W := fun W h1 h2 h3 a h => by
    refine wpAnyG_ready rJftt0 (by simp) ?_
    refine AllG.cons p3 (fun K hK => ?_) ?_
    · refine step_mk g3 (.tmp 57) (.tmp 57) q3 c.W0.heap.size c.n1 ((h.agr.at 57 (by decide)).trans hc.e57) ((h.agr.at 57 (by decide)).trans hc.e57) hc.l1 h.bel.size ?_
      intro w' hm hb hl
      rw [d3]
      exact hK.out _ _ ⟨(hS _).1, .inr (hS _).2⟩ (fun _ => Jttt0 _ _ _ _ _ (Sm.mk1 hc h (by decide) hm hb))
    exact AllG.nil
  have Jtff1 : ∀ W h1 h2 h3 a, Sm c a0 true false false 1 h1 h2 h3 a W → wpAnyG Tryz.prog .any ops Q S1 S2 99 4 (Lsm true false false 1) a W := fun W h1 h2 h3 a h => by
    refine wpAnyG_ready rJtff1 (by simp) ?_
    refine AllG.cons p5 (fun K hK => ?_) ?_
    · refine step_mk g5 (.tmp 59) (.tmp 59) q5 c.W0.heap.size c.n2 ((h.agr.at 59 (by decide)).trans hc.e59) ((h.agr.at 59 (by decide)).trans hc.e59) hc.l2 h.bel.size ?_
      intro w' hm hb hl
      rw [d5]
      exact hK.out _ _ ⟨(hS _).1, .inr (hS _).2⟩ (fun _ => Jttf1 _ _ _ _ _ (Sm.mk2 hc h (by decide) hm hb))
    refine AllG.cons p7 (fun K hK => ?_) ?_
    · refine step_mk g7 (.tmp 61) (.tmp 61) q7 c.W0.heap.size c.n3 ((h.agr.at 61 (by decide)).trans hc.e61) ((h.agr.at 61 (by decide)).trans hc.e61) hc.l3 h.bel.size ?_
      intro w' hm hb hl
      rw [d7]
      exact hK.out _ _ ⟨(hS _).1, .inr (hS _).2⟩ (fun _ => Jtft1 _ _ _ _ _ (Sm.mk3 hc h (by decide) hm hb))
    exact AllG.nil
  have Jtft0 : ∀ W h1 h2 h3 a, Sm c a0 true false true 0 h1 h2 h3 a W → wpAnyG Tryz.prog .any ops Q S1 S2 99 4 (Lsm true false true 0) a W := fun W h1 h2 h3 a h => by
    refine wpAnyG_ready rJtft0 (by simp) ?_
    refine AllG.cons p5 (fun K hK => ?_) ?_
    · refine step_mk g5 (.tmp 59) (.tmp 59) q5 c.W0.heap.size c.n2 ((h.agr.at 59 (by decide)).trans hc.e59) ((h.agr.at 59 (by decide)).trans hc.e59) hc.l2 h.bel.size ?_
      intro w' hm hb hl
      rw [d5]
      exact hK.out _ _ ⟨(hS _).1, .inr (hS _).2⟩ (fun _ => Jttt0 _ _ _ _ _ (Sm.mk2 hc h (by decide) hm hb))
    refine AllG.cons p8 (fun K hK => ?_) ?_
    · refine step_as g8 (.tmp 58) q8 _ (h.e1 rfl).1 ?_
      rw [d8]
      exact hK.out _ _ ⟨(hS _).1, .inr (hS _).2⟩ (fun _ => Jtft1 _ _ _ _ _ (Sm.as1 hc h))
    exact AllG.nil
  have Jttf0 : ∀ W h1 h2 h3 a, Sm c a0 true true false 0 h1 h2 h3 a W → wpAnyG Tryz.prog .any ops Q S1 S2 99 4 (Lsm true true false 0) a W := fun W h1 h2 h3 a h => by
    refine wpAnyG_ready rJttf0 (by simp) ?_
    refine AllG.cons p7 (fun K hK => ?_) ?_
    · refine step_mk g7 (.tmp 61) (.tmp 61) q7 c.W0.heap.size c.n3 ((h.agr.at 61 (by decide)).trans hc.e61) ((h.agr.at 61 (by decide)).trans hc.e61) hc.l3 h.bel.size ?_
      intro w' hm hb hl
      rw [d7]
      exact hK.out _ _ ⟨(hS _).1, .inr (hS _).2⟩ (fun _ => Jttt0 _ _ _ _ _ (Sm.mk3 hc h (by decide) hm hb))
    refine AllG.cons p8 (fun K hK => ?_) ?_
    · refine step_as g8 (.tmp 58) q8 _ (h.e1 rfl).1 ?_
      rw [d8]
      exact hK.out _ _ ⟨(hS _).1, .inr (hS _).2⟩ (fun _ => Jttf1 _ _ _ _ _ (Sm.as1 hc h))
    exact AllG.nil
  have Jfft0 : ∀ W h1 h2 h3 a, Sm c a0 false false true 0 h1 h2 h3 a W → wpAnyG Tryz.prog .any ops Q S1 S2 99 5 (Lsm false false true 0) a W := fun W h1 h2 h3 a h => by
    refine wpAnyG_ready rJfft0 (by simp) ?_
    refine AllG.cons p3 (fun K hK => ?_) ?_
    · refine step_mk g3 (.tmp 57) (.tmp 57) q3 c.W0.heap.size c.n1 ((h.agr.at 57 (by decide)).trans hc.e57) ((h.agr.at 57 (by decide)).trans hc.e57) hc.l1 h.bel.size ?_
      intro w' hm hb hl
      rw [d3]
      exact hK.out _ _ ⟨(hS _).1, .inr (hS _).2⟩ (fun _ => Jtft0 _ _ _ _ _ (Sm.mk1 hc h (by decide) hm hb))
    refine AllG.cons p5 (fun K hK => ?_) ?_
    · refine step_mk g5 (.tmp 59) (.tmp 59) q5 c.W0.heap.size c.n2 ((h.agr.at 59 (by decide)).trans hc.e59) ((h.agr.at 59 (by decide)).trans hc.e59) hc.l2 h.bel.size ?_
      intro w' hm hb hl
      rw [d5]
      exact hK.out _ _ ⟨(hS _).1, .inr (hS _).2⟩ (fun _ => Jftt0 _ _ _ _ _ (Sm.mk2 hc h (by decide) hm hb))
    exact AllG.nil
  have Jftf0 : ∀ W h1 h2 h3 a, Sm c a0 false true false 0 h1 h2 h3 a W → wpAnyG Tryz.prog .any ops Q S1 S2 99 5 (Lsm false true false 0) a W := fun W h1 h2 h3 a h => by
    refine wpAnyG_ready rJftf0 (by simp) ?_
    refine AllG.cons p3 (fun K hK => ?_) ?_
    · refine step_mk g3 (.tmp 57) (.tmp 57) q3 c.W0.heap.size c.n1 ((h.agr.at 57 (by decide)).trans hc.e57) ((h.agr.at 57 (by decide)).trans hc.e57) hc.l1 h.bel.size ?_
      intro w' hm hb hl
      rw [d3]
      exact hK.out _ _ ⟨(hS _).1, .inr (hS _).2⟩ (fun _ => Jttf0 _ _ _ _ _ (Sm.mk1 hc h (by decide) hm hb))
    refine AllG.cons p7 (fun K hK => ?_) ?_
    · refine step_mk g7 (.tmp 61) (.tmp 61) q7 c.W0.heap.size c.n3 ((h.agr.at 61 (by decide)).trans hc.e61) ((h.agr.at 61 (by decide)).trans hc.e61) hc.l3 h.bel.size ?_
      intro w' hm hb hl
      rw [d7]
      exact hK.out _ _ ⟨(hS _).1, .inr (hS _).2⟩ (fun _ => Jftt0 _ _ _ _ _ (Sm.mk3 hc h (by decide) hm hb))
    exact AllG.nil
  have Jtff0 : ∀ W h1 h2 h3 a, Sm c a0 true false false 0 h1 h2 h3 a W → wpAnyG Tryz.prog .any ops Q S1 S2 99 5 (Lsm true false false 0) a W := fun W h1 h2 h3 a h => by
    refine wpAnyG_ready rJtff0 (by simp) ?_
    refine AllG.cons p5 (fun K hK => ?_) ?_
    · refine step_mk g5 (.tmp 59) (.tmp 59) q5 c.W0.heap.size c.n2 ((h.agr.at 59 (by decide)).trans hc.e59) ((h.agr.at 59 (by decide)).trans hc.e59) hc.l2 h.bel.size ?_
      intro w' hm hb hl
      rw [d5]
      exact hK.out _ _ ⟨(hS _).1, .inr (hS _).2⟩ (fun _ => Jttf0 _ _ _ _ _ (Sm.mk2 hc h (by decide) hm hb))
    refine AllG.cons p7 (fun K hK => ?_) ?_
    · refine step_mk g7 (.tmp 61) (.tmp 61) q7 c.W0.heap.size c.n3 ((h.agr.at 61 (by decide)).trans hc.e61) ((h.agr.at 61 (by decide)).trans hc.e61) hc.l3 h.bel.size ?_
      intro w' hm hb hl
      rw [d7]
      exact hK.out _ _ ⟨(hS _).1, .inr (hS _).2⟩ (fun _ => Jtft0 _ _ _ _ _ (Sm.mk3 hc h (by decide) hm hb))
    refine AllG.cons p8 (fun K hK => ?_) ?_
    · refine step_as g8 (.tmp 58) q8 _ (h.e1 rfl).1 ?_
      rw [d8]
      exact hK.out _ _ ⟨(hS _).1, .inr (hS _).2⟩ (fun _ => Jtff1 _ _ _ _ _ (Sm.as1 hc h))
    exact AllG.nil
  have Jfff0 : ∀ W h1 h2 h3 a, Sm c a0 false false false 0 h1 h2 h3 a W → wpAnyG Tryz.prog .any ops Q S1 S2 99 6 (Lsm false false false 0) a W := fun W h1 h2 h3 a h => by
    refine wpAnyG_ready rJfff0 (by simp) ?_
    refine AllG.cons p3 (fun K hK => ?_) ?_
    · refine step_mk g3 (.tmp 57) (.tmp 57) q3 c.W0.heap.size c.n1 ((h.agr.at 57 (by decide)).trans hc.e57) ((h.agr.at 57 (by decide)).trans hc.e57) hc.l1 h.bel.size ?_
      intro w' hm hb hl
      rw [d3]
      exact hK.out _ _ ⟨(hS _).1, .inr (hS _).2⟩ (fun _ => Jtff0 _ _ _ _ _ (Sm.mk1 hc h (by decide) hm hb))
    refine AllG.cons p5 (fun K hK => ?_) ?_
    · refine step_mk g5 (.tmp 59) (.tmp 59) q5 c.W0.heap.size c.n2 ((h.agr.at 59 (by decide)).trans hc.e59) ((h.agr.at 59 (by decide)).trans hc.e59) hc.l2 h.bel.size ?_
      intro w' hm hb hl
      rw [d5]
      exact hK.out _ _ ⟨(hS _).1, .inr (hS _).2⟩ (fun _ => Jftf0 _ _ _ _ _ (Sm.mk2 hc h (by decide) hm hb))
    refine AllG.cons p7 (fun K hK => ?_) ?_
    · refine step_mk g7 (.tmp 61) (.tmp 61) q7 c.W0.heap.size c.n3 ((h.agr.at 61 (by decide)).trans hc.e61) ((h.agr.at 61 (by decide)).trans hc.e61) hc.l3 h.bel.size ?_
      intro w' hm hb hl
      rw [d7]
      exact hK.out _ _ ⟨(hS _).1, .inr (hS _).2⟩ (fun _ => Jfft0 _ _ _ _ _ (Sm.mk3 hc h (by decide) hm hb))
    exact AllG.nil
  exact Jfff0 _ 0 0 0 _ ⟨⟨rfl, rfl, fun _ _ _ _ _ _ _ => rfl⟩, Below.refl _ _, fun e => (by cases e), fun e => (by cases e), fun e => (by cases e), fun e => (by cases e), fun e => (by cases e), fun e => (by cases e), fun e => absurd e (by decide), fun e => absurd e (by decide), fun e => absurd e (by decide)⟩
end Go.Proofs.YtmapagbmihpbmaaGreatDoor

namespace Go.Proofs.YtmapagbmihpbmaaGreatDoor
open Go.RowKit

/-- A value's cells. -/
abbrev vA (u : Vl) : Array Value := #[.int .i64 u.k, .string u.num, .string u.den, .string u.text, .bool u.on, .int .i64 u.code, .int .i64 u.rows, .int .i64 u.cols, .slice u.A u.n u.c]
abbrev z9 : Array Value := #[.int .i64 0, .string ⟨#[]⟩, .string ⟨#[]⟩, .string ⟨#[]⟩, .bool false, .int .i64 0, .int .i64 0, .int .i64 0, .slice none 0 0]
abbrev z14 : Array Value := #[.slice none 0 0, .slice none 0 0, .slice none 0 0, .slice none 0 0, .slice none 0 0, .int .i64 0, .string ⟨#[]⟩, .string ⟨#[]⟩, .string ⟨#[]⟩, .bool false, .int .i64 0, .int .i64 0, .int .i64 0, .slice none 0 0]
/-- What a cell of the table holds; Rs: what a group is combined to. -/
def cellV (Rs : List Rm → Vl) (L : List Rm) (m x : Nat) : Vl := if (grM L (x / m) (x % m)).length = 0 then zV else Rs (grM L (x / m) (x % m))
def rowV (Rs : List Rm → Vl) (L : List Rm) (i : Nat) : Vl := Rs (Pv.gr1 Rm.row L i)
def colV (Rs : List Rm → Vl) (L : List Rm) (k : Nat) : Vl := Rs (Pv.gr1 Rm.col L k)
/-- What Make answers, its keys and records given. -/
def MakeR (n m : Nat) (K1 K2 : List Vl) (RL : List Rm) (Rs : List Rm → Vl) (w : World) (e : Ending) (w' : World) : Prop :=
  ∃ (g1 c1 g2 c2 : Nat) (A3 : Option Addr) (c3 : Nat) (A4 : Option Addr) (c4 : Nat) (A5 : Option Addr) (c5 : Nat),
    e = .returned (.tuple #[.agg #[.slice (some ⟨g1, 0, none⟩) n c1, .slice (some ⟨g2, 0, none⟩) m c2, .slice A3 (n * m) c3, .slice A4 n c4, .slice A5 m c5,
      .int .i64 (Rs RL).k, .string (Rs RL).num, .string (Rs RL).den, .string (Rs RL).text, .bool (Rs RL).on, .int .i64 (Rs RL).code, .int .i64 (Rs RL).rows, .int .i64 (Rs RL).cols, .slice (Rs RL).A (Rs RL).n (Rs RL).c], .int .i64 0]) ∧
    KT w' (.slice (some ⟨g1, 0, none⟩) n c1) K1 ∧ KT w' (.slice (some ⟨g2, 0, none⟩) m c2) K2 ∧
    Reads 9 csV w' (.slice A3 (n * m) c3) ((List.range (n * m)).map (cellV Rs RL m)) ∧
    Reads 9 csV w' (.slice A4 n c4) ((List.range n).map (rowV Rs RL)) ∧
    Reads 9 csV w' (.slice A5 m c5) ((List.range m).map (colV Rs RL)) ∧
    Below w.heap.size w w'
/-- What the last loops of Make know. -/
structure Mk (w wz : World) (L1 : List (Nat × TypeId × Array Value)) (tB h1 h2 h3 n m : Nat) (RL : List Rm) (s1 s2 : Value) (K1 K2 : List Vl) (Rs : List Rm → Vl) (how : Int) : Prop where
  env : VEnv w
  res : ∀ (A : Option Addr) (q c : Nat) (L : List Rm) W, VEnv W → Reads 12 rmC W (.slice A q c) L → q ≤ 14 → (∀ r ∈ L, r ∈ RL) → Calls Tryz.prog 19 #[.slice A q c, .int .i64 how] W fun e w' => e = .returned (.agg (vA (Rs L))) ∧ Below W.heap.size W w'
  hd1 : ∀ k, k < n * m → ∃ A c, ∀ W, Chg wz.heap.size [tB] wz W → W.cell? ⟨h1, k, none⟩ = some (.slice A (grM RL (k / m) (k % m)).length c) ∧ Reads 12 rmC W (.slice A (grM RL (k / m) (k % m)).length c) (grM RL (k / m) (k % m))
  hd2 : ∀ i, i < n → ∃ A c, ∀ W, Chg wz.heap.size [tB] wz W → W.cell? ⟨h2, i, none⟩ = some (.slice A (Pv.gr1 Rm.row RL i).length c) ∧ Reads 12 rmC W (.slice A (Pv.gr1 Rm.row RL i).length c) (Pv.gr1 Rm.row RL i)
  hd3 : ∀ k, k < m → ∃ A c, ∀ W, Chg wz.heap.size [tB] wz W → W.cell? ⟨h3, k, none⟩ = some (.slice A (Pv.gr1 Rm.col RL k).length c) ∧ Reads 12 rmC W (.slice A (Pv.gr1 Rm.col RL k).length c) (Pv.gr1 Rm.col RL k)
  kt : ∀ W, Chg wz.heap.size [tB] wz W → KT W s1 K1 ∧ KT W s2 K2
  ne : ∀ x ∈ L1, x.1 ≠ tB
  lt : ∀ x ∈ L1, x.1 < tB
  ltB : tB < wz.heap.size
  low : w.heap.size ≤ tB
  ask : ∃ q1 q2, (w.heap.size + 1, 30, #[q1, q2, .int .i64 2, .int .i64 how]) ∈ L1
  out : (w.heap.size + 1 + 1, 33, z14) ∈ L1
  len : RL.length ≤ 14
  ln : n ≤ 14
  lm : m ≤ 14
theorem gr1_len {α : Type} (g : α → Nat) (l : List α) (i : Nat) : (Pv.gr1 g l i).length ≤ l.length := by
  unfold Pv.gr1
  exact List.length_filter_le _ _
theorem gr1_mem {α : Type} (g : α → Nat) (l : List α) (i : Nat) : ∀ r ∈ Pv.gr1 g l i, r ∈ l := fun r h => by
  unfold Pv.gr1 at h
  exact (List.mem_filter.1 h).1
theorem grM_len (l : List Rm) (i k : Nat) : (grM l i k).length ≤ l.length := by
  unfold grM Pv.gr
  exact List.length_filter_le _ _
theorem grM_mem (l : List Rm) (i k : Nat) : ∀ r ∈ grM l i k, r ∈ l := fun r h => by
  unfold grM Pv.gr at h
  exact (List.mem_filter.1 h).1
abbrev RV (W : World) (b : Nat) (v : Value) (l : List Vl) : Prop := RowOf 27 9 csV W b v l
/-- The table under way: one of its rows grows, others are whole. -/
structure LS (w wz W : World) (L1 : List (Nat × TypeId × Array Value)) (tB : Nat) (tc : Array Value) (B : Nat) (v : Value) (l : List Vl) (F : List (Value × List Vl)) : Prop where
  loc : Loc w ((tB, 33, tc) :: L1) W
  row : RV W B v l
  chg : Chg wz.heap.size [tB] wz W
  base : B ≤ W.heap.size
  le : wz.heap.size ≤ B
  fin : ∀ p ∈ F, RV W wz.heap.size p.1 p.2 ∧ ∀ g, p.1.ownBlock = some g → g < B
section
variable {w wz W W' : World} {L1 : List (Nat × TypeId × Array Value)} {tB h1 h2 h3 n m : Nat} {RL : List Rm} {s1 s2 : Value} {K1 K2 : List Vl} {Rs : List Rm → Vl} {how : Int} {tc : Array Value} {B : Nat} {v : Value} {l : List Vl} {F : List (Value × List Vl)}
theorem LS.step (h : LS w wz W L1 tB tc B v l F) (hb : Below W.heap.size W W') : LS w wz W' L1 tB tc B v l F :=
  ⟨h.loc.step hb, RowOf.later h.row hb, h.chg.trans (Chg.of (hb.mono h.chg.size) [tB]), Nat.le_trans h.base hb.size, h.le, fun p hp => ⟨RowOf.later (h.fin p hp).1 hb, (h.fin p hp).2⟩⟩
theorem LS.drew (h : LS w wz W L1 tB tc B v l F) : LS w wz W.drew L1 tB tc B v l F := ⟨h.loc.drew, RowOf.drew h.row, h.chg.drew, h.base, h.le, fun p hp => ⟨RowOf.drew (h.fin p hp).1, (h.fin p hp).2⟩⟩
theorem LS.alloc (h : LS w wz W L1 tB tc B v l F) (o : Obj) : LS w wz (W.alloc o) L1 tB tc B v l F := h.step ((Below.refl _ _).alloc (Nat.le_refl _) _)
theorem LS.bel (h : LS w wz W L1 tB tc B v l F) : Below w.heap.size w W := h.loc.bel
/-- The next row begins. -/
theorem LS.next (h : LS w wz W L1 tB tc B v l F) : LS w wz W L1 tB tc W.heap.size (.slice none 0 0) [] ((v, l) :: F) :=
  ⟨h.loc, RowOf.nil _ _, h.chg, Nat.le_refl _, h.chg.size, fun p hp => by
    rcases List.mem_cons.1 hp with rfl | hp
    · exact ⟨RowOf.mono h.row h.le, fun g hg => (RowOf.lt h.row g hg).2⟩
    · exact ⟨(h.fin p hp).1, fun g hg => Nat.lt_of_lt_of_le ((h.fin p hp).2 g hg) h.base⟩⟩
theorem LS.ask (hm : Mk w wz L1 tB h1 h2 h3 n m RL s1 s2 K1 K2 Rs how) (h : Loc w ((tB, 33, tc) :: L1) W) : W.cell? ⟨w.heap.size + 1, 3, none⟩ = some (.int .i64 how) := by
  obtain ⟨q1, q2, hq⟩ := hm.ask
  exact (h.blk (List.mem_cons_of_mem _ hq)).cell 3
/-- The row is grown: what the table's cell holds till then. -/
theorem LS.grown (hm : Mk w wz L1 tB h1 h2 h3 n m RL s1 s2 K1 K2 Rs how) (h : LS w wz W L1 tB tc B v l F) (hb : Below B W W') {nv : Value} {l' : List Vl} (ho : RV W' B nv l') : LS w wz W' L1 tB tc B nv l' F :=
  ⟨h.loc.stepB' hb (Nat.le_trans hm.low (Nat.le_trans (Nat.le_of_lt hm.ltB) h.le)) (fun x hx => by
    have h1 := hm.ltB
    have h2 := h.le
    rcases List.mem_cons.1 hx with rfl | hx
    · exact Nat.lt_of_lt_of_le h1 h2
    · have := hm.lt x hx
      omega), ho, h.chg.trans (Chg.of (hb.mono h.le) [tB]), Nat.le_trans h.base hb.size, h.le, fun p hp => ⟨RowOf.chg (h.fin p hp).1 (Chg.of hb []) (fun g hg => ⟨(h.fin p hp).2 g hg, by simp⟩), (h.fin p hp).2⟩⟩
/-- A cell of the table is put. -/
theorem LS.put (hm : Mk w wz L1 tB h1 h2 h3 n m RL s1 s2 K1 K2 Rs how) (h : LS w wz W L1 tB tc B v l F) (i : Nat) (u : Value) : LS w wz (W.setCell ⟨tB, i, none⟩ u) L1 tB (tc.setIfInBounds i u) B v l F := by
  have hB := hm.ltB
  have hle := h.le
  have far : ∀ {B' : Nat} {v' : Value} {l' : List Vl}, wz.heap.size ≤ B' → RV W B' v' l' → RV (W.setCell ⟨tB, i, none⟩ u) B' v' l' := fun hB' ho => RowOf.far ho (fun k hk e => by
    have h1 := (RowOf.lt ho k hk).1
    have e : k = tB := e
    omega) u
  refine ⟨h.loc.set1 (i := i) hm.ne u, far h.le h.row, h.chg.set (p := ⟨tB, i, none⟩) (.inl (List.mem_singleton.2 rfl)) u, ?_, h.le, fun p hp => ⟨far (Nat.le_refl _) (h.fin p hp).1, (h.fin p hp).2⟩⟩
  have := h.base
  simpa [World.setCell] using this
end
end Go.Proofs.YtmapagbmihpbmaaGreatDoor

namespace Go.Proofs.YtmapagbmihpbmaaGreatDoor
open Go.RowKit

/-- A positive fraction as a value. -/
def qV (p d : Nat) : Vl := ⟨1, nt p, nt d, ⟨#[]⟩, false, 0, 0, 0, none, 0, 0⟩
theorem nt_one : nt 1 = ⟨#[49]⟩ := by unfold nt; rw [Lib.decDigits_one (by decide)]; rfl
theorem nV_q (n : Nat) : nV n = qV n 1 := by unfold nV qV; rw [nt_one]
theorem rd_of (p d : Nat) (hp : p < 100000000000000000) (hd : d < 100000000000000000) (h0 : d ≠ 0) (hg : Nat.gcd p d = 1) : Nt.Rd (nt p).data.toList (nt d).data.toList false p d := by
  have h1 : (Lib.decDigits p).length ≤ 17 := Nt.dd_le (k := 16) hp
  have h2 : (Lib.decDigits d).length ≤ 17 := Nt.dd_le (k := 16) hd
  exact ⟨rfl, rfl, h0, fun _ => rfl, by omega, by omega, hg⟩
/-- The quotient of two whole numbers. -/
theorem div_nat (s n : Nat) (w : World) (hs : s ≤ 1000) (hn : n ≤ 1000) (h0 : 0 < n) (htab : Lib.TabIs Tryz.prog w "internal/strconv.uint64pow10" .u64 Lib.pow10Tab) :
    Calls Tryz.prog 43 #[.agg #[.string (nt s), .string ⟨#[49]⟩], .agg #[.string (nt n), .string ⟨#[49]⟩]] w fun e w' => e = .returned (.tuple #[.agg #[.string (nt (s / Nat.gcd s n)), .string (nt (n / Nat.gcd s n))], .int .i64 0]) ∧ Below w.heap.size w w' :=
  (div_q (nt s) ⟨#[49]⟩ (nt n) ⟨#[49]⟩ s n 1 1 40 40 w (pv_qk s (by omega)) (pv_qk n (by omega)) (by omega) (by decide) htab).mono fun e w' ⟨sn, sd, h1, h2, h3⟩ => by
    have hg : 0 < Nat.gcd s n := Nat.gcd_pos_of_pos_right _ h0
    obtain ⟨a, ha⟩ := Nat.gcd_dvd_left s n
    obtain ⟨b, hb⟩ := Nat.gcd_dvd_right s n
    have ea : s / Nat.gcd s n = a := by
      conv => lhs; arg 1; rw [ha]
      exact Nat.mul_div_cancel_left _ hg
    have eb : n / Nat.gcd s n = b := by
      conv => lhs; arg 1; rw [hb]
      exact Nat.mul_div_cancel_left _ hg
    have hb0 : b ≠ 0 := fun e => by rw [e, Nat.mul_zero] at hb; omega
    have hab : Nat.gcd a b = 1 := by
      have h9 : Nat.gcd s n = Nat.gcd s n * Nat.gcd a b := by
        have e : Nat.gcd (Nat.gcd s n * a) (Nat.gcd s n * b) = Nat.gcd s n * Nat.gcd a b := Nat.gcd_mul_left _ _ _
        rw [← ha, ← hb] at e
        exact e
      exact Nat.eq_of_mul_eq_mul_left hg (by rw [Nat.mul_one]; exact h9.symm)
    have la : a ≤ s := by rw [← ea]; exact Nat.div_le_self _ _
    have lb : b ≤ n := by rw [← eb]; exact Nat.div_le_self _ _
    have hr := rd_of a b (by omega) (by omega) hb0 hab
    have hq : Nt.Q (nt a).data.toList (nt b).data.toList (a : Int) b := ⟨hb0, false, a, b, hr, rfl⟩
    have hn' : (n : Int).sign = 1 := Int.sign_eq_one_of_pos (by omega)
    obtain ⟨e1, e2⟩ := h2.q.same hq (by
      rw [hn', Int.natAbs_natCast]
      have : s * b = a * n := by
        conv => lhs; rw [ha]
        conv => rhs; rw [hb]
        rw [Nat.mul_comm (Nat.gcd s n) a, Nat.mul_assoc]
      push_cast
      have h9 : (s : Int) * b = a * n := by
        have := congrArg (fun x : Nat => (x : Int)) this
        push_cast at this
        exact this
      rw [Int.mul_one, Int.mul_one, Int.one_mul]
      exact h9)
    obtain rfl : sn = nt a := ba_ext e1
    obtain rfl : sd = nt b := ba_ext e2
    rw [ea, eb]
    exact ⟨h1, h3⟩
/-- What a group is combined to. -/
def resV (N : Rm → Nat) (how : Int) (L : List Rm) : Vl :=
  if how = 1 then nV L.length else if how = 0 then nV (Pv.sm N L) else if L.length = 0 then zV else
    if how = 2 then qV (Pv.sm N L / Nat.gcd (Pv.sm N L) L.length) (L.length / Nat.gcd (Pv.sm N L) L.length) else if how = 3 then nV (mnL (L.map N)) else nV (mxL (L.map N))
theorem resV_end (N : Rm → Nat) (how : Int) (L : List Rm) (hh : how = 3 ∨ how = 4) : resV N how L = if L.length = 0 then zV else if how = 3 then nV (mnL (L.map N)) else nV (mxL (L.map N)) := by
  rcases hh with rfl | rfl <;> simp [resV]
set_option maxRecDepth 100000 in
set_option maxHeartbeats 8000000 in
theorem end_any (A : Option Addr) (n c : Nat) (l : List Nat) (how : Int) (w : World) (he : VEnv w) (hL : Reads 2 frC w (.slice A n c) l) (hn : n ≤ 100) (hb : ∀ x ∈ l, x ≤ 1000) (hh : how = 3 ∨ how = 4) :
    Calls Tryz.prog 41 #[.slice A n c, .int .i64 how] w fun e w' => e = .returned (.agg (vA (if n = 0 then zV else if how = 3 then nV (mnL l) else nV (mxL l)))) ∧ Below w.heap.size w w' := by
  have HL0 := Lib.hid ((Loc.start w).alloc' rfl 27 #[.int .i64 0, .string ⟨#[]⟩, .string ⟨#[]⟩, .string ⟨#[]⟩, .bool false, .int .i64 0, .int .i64 0, .int .i64 0, .slice none 0 0])
  obtain ⟨V, hV⟩ : ∃ V, V = (if n = 0 then zV else if how = 3 then nV (mnL l) else nV (mxL l)) := ⟨_, rfl⟩
  rw [← hV]
  have HV := Lib.hid hV
  clear hV
  by_cases h0 : n = 0
  · subst h0
    clear hL hb hh he
    go_enter Tryz.func41, Tryz.ntmps41
    go_upto_region 2 with fail
    revert HL0
    generalize w.alloc (.cells #[.int .i64 0, .string ⟨#[]⟩, .string ⟨#[]⟩, .string ⟨#[]⟩, .bool false, .int .i64 0, .int .i64 0, .int .i64 0, .slice none 0 0] 27) = W1
    intro HL0
    have bz := HL0.out.blk (g := w.heap.size) (t := 27) (cs := #[.int .i64 0, .string ⟨#[]⟩, .string ⟨#[]⟩, .string ⟨#[]⟩, .bool false, .int .i64 0, .int .i64 0, .int .i64 0, .slice none 0 0]) (List.mem_singleton.2 rfl)
    obtain ⟨z0, z1, z2, z3, z4, z5, z6, z7, z8⟩ := bz.nine
    obtain ⟨f0, f1, f2, f3, f4, f5, f6, f7, f8⟩ := bz.ninef
    obtain ⟨bs, c0, c1, c2, c3, c4, c5, c6, c7, c8⟩ := bz.nine_set (.int .i64 0) (.string ⟨#[]⟩) (.string ⟨#[]⟩) (.string ⟨#[]⟩) (.bool false) (.int .i64 0) (.int .i64 0) (.int .i64 0) (.slice none 0 0)
    have BS := Lib.hid bs
    clear bs bz
    go_wp2_with fail
    obtain ⟨q0, q1, q2, q3, q4, q5, q6, q7, q8⟩ := BS.out.nine
    refine bodyPost_ret (v := .agg #[.int .i64 0, .string ⟨#[]⟩, .string ⟨#[]⟩, .string ⟨#[]⟩, .bool false, .int .i64 0, .int .i64 0, .int .i64 0, .slice none 0 0]) (by simp [results, Tryz.results41, go_sem, q0, q1, q2, q3, q4, q5, q6, q7, q8]) rfl ⟨by rw [HV.out, if_pos trivial]; rfl, below_nine HL0.out.bel (Nat.le_refl _) _ _ _ _ _ _ _ _ _⟩
  · have HV := Lib.hid (show V = if how = 3 then nV (mnL l) else nV (mxL l) from by rw [HV.out, if_neg h0])
    have hz : ((n : Int) == 0) = false := by rw [beq_eq_false_iff_ne]; omega
    have HE := Lib.hid he
    have HRB := Lib.hid (hL.below HL0.out.bel)
    have hmn := mnL_le l 1000 hb
    have hmx := mxL_le l 1000 hb
    rcases hh with rfl | rfl
    · obtain ⟨t, ht⟩ : ∃ t, t = nt (mnL l) := ⟨_, rfl⟩
      have HM := Lib.hid (minf_any A n c l _ HRB.out (by omega) hn hb)
      have HNU := Lib.hid fun W (hW : Below w.heap.size w W) => num_nat (mnL l) W (HE.out.below hW) (by omega)
      rw [← ht] at HM
      have HNU := Lib.hid (show ∀ W, Below w.heap.size w W → Calls Tryz.prog 44 #[.agg #[.string t, .string ⟨#[49]⟩]] W fun e w' => e = .returned (.agg #[.int .i64 1, .string t, .string ⟨#[49]⟩, .string ⟨#[]⟩, .bool false, .int .i64 0, .int .i64 0, .int .i64 0, .slice none 0 0]) ∧ Below W.heap.size W w' from fun W hW => by
        have := HNU.out W hW
        rw [ht]
        exact this)
      have HT := Lib.hid ht
      clear ht hL hb he hmn hmx h0
      go_enter Tryz.func41, Tryz.ntmps41
      go_wp2_with (first
        | (go_at_call 72; (with_reducible refine HM.out.mono ?_); rintro e w1 ⟨rfl, hb⟩; have HL1 := Lib.hid (HL0.out.step hb); clear hb)
        | (go_at_call 44; (with_reducible refine (HNU.out _ HL1.out.bel).mono ?_); rintro e w2 ⟨rfl, hb⟩; have HL2 := Lib.hid (HL1.out.step hb); have bz := HL2.out.blk (g := w.heap.size) (t := 27) (cs := #[.int .i64 0, .string ⟨#[]⟩, .string ⟨#[]⟩, .string ⟨#[]⟩, .bool false, .int .i64 0, .int .i64 0, .int .i64 0, .slice none 0 0]) (List.mem_singleton.2 rfl); obtain ⟨z0, z1, z2, z3, z4, z5, z6, z7, z8⟩ := bz.nine; obtain ⟨f0, f1, f2, f3, f4, f5, f6, f7, f8⟩ := bz.ninef; obtain ⟨bs, c0, c1, c2, c3, c4, c5, c6, c7, c8⟩ := bz.nine_set (.int .i64 1) (.string t) (.string ⟨#[49]⟩) (.string ⟨#[]⟩) (.bool false) (.int .i64 0) (.int .i64 0) (.int .i64 0) (.slice none 0 0); have BS := Lib.hid bs; clear bz bs hb))
      obtain ⟨q0, q1, q2, q3, q4, q5, q6, q7, q8⟩ := BS.out.nine
      refine bodyPost_ret (v := .agg #[.int .i64 1, .string t, .string ⟨#[49]⟩, .string ⟨#[]⟩, .bool false, .int .i64 0, .int .i64 0, .int .i64 0, .slice none 0 0]) (by simp [results, Tryz.results41, go_sem, q0, q1, q2, q3, q4, q5, q6, q7, q8]) rfl ⟨?_, below_nine HL2.out.bel (Nat.le_refl _) _ _ _ _ _ _ _ _ _⟩
      rw [HV.out, HT.out]
      rw [if_pos trivial]
      rfl
    · obtain ⟨t, ht⟩ : ∃ t, t = nt (mxL l) := ⟨_, rfl⟩
      have HM := Lib.hid (maxf_any A n c l _ HRB.out (by omega) hn hb)
      have HNU := Lib.hid fun W (hW : Below w.heap.size w W) => num_nat (mxL l) W (HE.out.below hW) (by omega)
      rw [← ht] at HM
      have HNU := Lib.hid (show ∀ W, Below w.heap.size w W → Calls Tryz.prog 44 #[.agg #[.string t, .string ⟨#[49]⟩]] W fun e w' => e = .returned (.agg #[.int .i64 1, .string t, .string ⟨#[49]⟩, .string ⟨#[]⟩, .bool false, .int .i64 0, .int .i64 0, .int .i64 0, .slice none 0 0]) ∧ Below W.heap.size W w' from fun W hW => by
        have := HNU.out W hW
        rw [ht]
        exact this)
      have HT := Lib.hid ht
      clear ht hL hb he hmn hmx h0
      go_enter Tryz.func41, Tryz.ntmps41
      go_wp2_with (first
        | (go_at_call 73; (with_reducible refine HM.out.mono ?_); rintro e w1 ⟨rfl, hb⟩; have HL1 := Lib.hid (HL0.out.step hb); clear hb)
        | (go_at_call 44; (with_reducible refine (HNU.out _ HL1.out.bel).mono ?_); rintro e w2 ⟨rfl, hb⟩; have HL2 := Lib.hid (HL1.out.step hb); have bz := HL2.out.blk (g := w.heap.size) (t := 27) (cs := #[.int .i64 0, .string ⟨#[]⟩, .string ⟨#[]⟩, .string ⟨#[]⟩, .bool false, .int .i64 0, .int .i64 0, .int .i64 0, .slice none 0 0]) (List.mem_singleton.2 rfl); obtain ⟨z0, z1, z2, z3, z4, z5, z6, z7, z8⟩ := bz.nine; obtain ⟨f0, f1, f2, f3, f4, f5, f6, f7, f8⟩ := bz.ninef; obtain ⟨bs, c0, c1, c2, c3, c4, c5, c6, c7, c8⟩ := bz.nine_set (.int .i64 1) (.string t) (.string ⟨#[49]⟩) (.string ⟨#[]⟩) (.bool false) (.int .i64 0) (.int .i64 0) (.int .i64 0) (.slice none 0 0); have BS := Lib.hid bs; clear bz bs hb))
      obtain ⟨q0, q1, q2, q3, q4, q5, q6, q7, q8⟩ := BS.out.nine
      refine bodyPost_ret (v := .agg #[.int .i64 1, .string t, .string ⟨#[49]⟩, .string ⟨#[]⟩, .bool false, .int .i64 0, .int .i64 0, .int .i64 0, .slice none 0 0]) (by simp [results, Tryz.results41, go_sem, q0, q1, q2, q3, q4, q5, q6, q7, q8]) rfl ⟨?_, below_nine HL2.out.bel (Nat.le_refl _) _ _ _ _ _ _ _ _ _⟩
      rw [HV.out, HT.out]
      rw [if_neg (by decide)]
      rfl
set_option maxRecDepth 100000 in
set_option maxHeartbeats 16000000 in
theorem result_end (N : Rm → Nat) (how : Int) (A : Option Addr) (n c : Nat) (L : List Rm) (w : World) (he : VEnv w) (hL : Reads 12 rmC w (.slice A n c) L) (hn : n ≤ 14) (hN : ∀ r ∈ L, r.v = nV (N r) ∧ N r ≤ 50) (hh : how = 3 ∨ how = 4) :
    Calls Tryz.prog 19 #[.slice A n c, .int .i64 how] w fun e w' => e = .returned (.agg (vA (resV N how L))) ∧ Below w.heap.size w w' := by
  have hl : L.length = n := by
    obtain ⟨A', c', e, -⟩ := hL
    injection e with e1 e2 e3
    exact e2.symm
  have HPT := Lib.hid he.pw
  have HC := Lib.hid (show ∀ j (hj : j < n), ∃ (b o ra rr rl : Nat) (tn : ByteArray), A = some ⟨b, o, none⟩ ∧ tn = nt (N L[j]!) ∧ ∀ W, Below w.heap.size w W → ∀ q, q < 12 → W.cell? ⟨b, o + j * 12 + q, none⟩ = (#[.int .i64 (ra : Int), .int .i64 (rr : Int), .int .i64 (rl : Int), .int .i64 1, .string tn, .string ⟨#[49]⟩, .string ⟨#[]⟩, .bool false, .int .i64 0, .int .i64 0, .int .i64 0, .slice none 0 0] : Array Value)[q]? from fun j hj => by
    obtain ⟨A', c', e, -, -, h3⟩ := hL
    injection e with e1 e2 e3
    obtain ⟨b, o, e4, hb, hc⟩ := h3 (by omega)
    have hm : L[j]! ∈ L := by rw [getElem!_pos L j (by omega)]; exact List.getElem_mem _
    have hv := (hN _ hm).1
    refine ⟨b, o, L[j]!.at_, L[j]!.row, L[j]!.col, _, e1.trans e4, rfl, fun W hW q hq => ?_⟩
    have := hc j (by omega) q hq
    rw [← getElem!_pos L j (by omega), ← Nat.add_assoc] at this
    refine ((hW.cell (by exact hb)).trans this).trans ?_
    unfold rmC
    rw [hv]
    simp [nV, Vl.cs])
  have HNM := Lib.hid (show ∀ j, j < n → ((L.take (j + 1)).map N) = (L.take j).map N ++ [N L[j]!] from fun j hj => by
    rw [getElem!_pos L j (by omega), ← List.take_append_getElem (by omega), List.map_append]; rfl)
  have hsm : ∀ j, Pv.sm N (L.take j) ≤ 700 := fun j => by
    have h1 := Pv.sm_le N 50 (L.take j) (fun r hr => (hN r (List.mem_of_mem_take hr)).2)
    have h2 : (L.take j).length ≤ 14 := Nat.le_trans (List.length_take_le' _ _) (by omega)
    omega
  have HSM := Lib.hid hsm
  have HNB := Lib.hid (show ∀ j, j < n → N L[j]! ≤ 50 from fun j hj => (hN _ (by rw [getElem!_pos L j (by omega)]; exact List.getElem_mem _)).2)
  have HST := Lib.hid (show ∀ j, j < n → Pv.sm N (L.take (j + 1)) = Pv.sm N (L.take j) + N L[j]! from fun j hj => sm_take N L j (by omega))
  have HEN := Lib.hid (show L.take n = L from List.take_of_length_le (by omega))
  have HHL := Lib.hid hl
  have HE := Lib.hid he
  have HL0 := Lib.hid ((Loc.start w).alloc' rfl 27 #[.int .i64 0, .string ⟨#[]⟩, .string ⟨#[]⟩, .string ⟨#[]⟩, .bool false, .int .i64 0, .int .i64 0, .int .i64 0, .slice none 0 0])
  clear hL hN he hsm hl
  have hml : ∀ j, ((L.take j).map N).length ≤ 14 := fun j => by rw [List.length_map]; exact Nat.le_trans (List.length_take_le' _ _) (by have := HHL.out; omega)
  have HML := Lib.hid hml
  clear hml
  go_enter Tryz.func19, Tryz.ntmps19
  go_wp2_with fail
  go_loopw [5, 6, 16] (fun u5 u6 u16 wr => ∃ j : Nat, j ≤ n ∧ u6 = .int .i64 j ∧ u16 = .int .i64 j ∧ Hid (RowOf 24 2 frC wr (w.heap.size + 1) u5 ((L.take j).map N)) ∧ Hid (Loc w [(w.heap.size, 27, #[.int .i64 0, .string ⟨#[]⟩, .string ⟨#[]⟩, .string ⟨#[]⟩, .bool false, .int .i64 0, .int .i64 0, .int .i64 0, .slice none 0 0])] wr)) (fun _ _ u _ => n - (intOf u).toNat)
  case atStart => exact ⟨0, by omega, rfl, rfl, Lib.hid (RowOf.nil _ _), HL0⟩
  case round =>
    clear HL0
    obtain ⟨j, hj, rfl, rfl, HO, HL⟩ := hrel
    by_cases hlt : j < n
    · have hlz : (j : Int) < (n : Int) := by omega
      obtain ⟨b, o, ra, rr, rl, tn, rfl, htn, hcl⟩ := HC.out j hlt
      have HTN := Lib.hid htn
      have hml := HML.out j
      have e0 : wr.cell? ⟨b, o + j * 12, none⟩ = some (.int .i64 (ra : Int)) := hcl wr HL.out.bel 0 (by decide)
      have e1 : wr.cell? ⟨b, o + j * 12 + 1, none⟩ = some (.int .i64 (rr : Int)) := hcl wr HL.out.bel 1 (by decide)
      have e2 : wr.cell? ⟨b, o + j * 12 + 2, none⟩ = some (.int .i64 (rl : Int)) := hcl wr HL.out.bel 2 (by decide)
      have e3 : wr.cell? ⟨b, o + j * 12 + 3, none⟩ = some (.int .i64 1) := hcl wr HL.out.bel 3 (by decide)
      have e4 : wr.cell? ⟨b, o + j * 12 + 4, none⟩ = some (.string tn) := hcl wr HL.out.bel 4 (by decide)
      have e5 : wr.cell? ⟨b, o + j * 12 + 5, none⟩ = some (.string ⟨#[49]⟩) := hcl wr HL.out.bel 5 (by decide)
      have e6 : wr.cell? ⟨b, o + j * 12 + 6, none⟩ = some (.string ⟨#[]⟩) := hcl wr HL.out.bel 6 (by decide)
      have e7 : wr.cell? ⟨b, o + j * 12 + 7, none⟩ = some (.bool false) := hcl wr HL.out.bel 7 (by decide)
      have e8 : wr.cell? ⟨b, o + j * 12 + 8, none⟩ = some (.int .i64 0) := hcl wr HL.out.bel 8 (by decide)
      have e9 : wr.cell? ⟨b, o + j * 12 + 9, none⟩ = some (.int .i64 0) := hcl wr HL.out.bel 9 (by decide)
      have e10 : wr.cell? ⟨b, o + j * 12 + 10, none⟩ = some (.int .i64 0) := hcl wr HL.out.bel 10 (by decide)
      have e11 : wr.cell? ⟨b, o + j * 12 + 11, none⟩ = some (.slice none 0 0) := hcl wr HL.out.bel 11 (by decide)
      clear hcl htn
      have HB0 := Lib.hid (HL.out.lt (g := w.heap.size) (t := 27) (List.mem_singleton.2 rfl))
      go_upto_region 6 with fail
      have hbk := Blk.new wr 61 #[.int .i64 (ra : Int), .int .i64 (rr : Int), .int .i64 (rl : Int), .int .i64 1, .string tn, .string ⟨#[49]⟩, .string ⟨#[]⟩, .bool false, .int .i64 0, .int .i64 0, .int .i64 0, .slice none 0 0]
      have HLA := Lib.hid (HL.out.alloc0 (.cells #[.int .i64 (ra : Int), .int .i64 (rr : Int), .int .i64 (rl : Int), .int .i64 1, .string tn, .string ⟨#[49]⟩, .string ⟨#[]⟩, .bool false, .int .i64 0, .int .i64 0, .int .i64 0, .slice none 0 0] 61))
      have HOA := Lib.hid (RowOf.alloc HO.out (.cells #[.int .i64 (ra : Int), .int .i64 (rr : Int), .int .i64 (rl : Int), .int .i64 1, .string tn, .string ⟨#[49]⟩, .string ⟨#[]⟩, .bool false, .int .i64 0, .int .i64 0, .int .i64 0, .slice none 0 0] 61))
      have HBA := Lib.hid (show w.heap.size + 1 ≤ (wr.alloc (.cells #[.int .i64 (ra : Int), .int .i64 (rr : Int), .int .i64 (rl : Int), .int .i64 1, .string tn, .string ⟨#[49]⟩, .string ⟨#[]⟩, .bool false, .int .i64 0, .int .i64 0, .int .i64 0, .slice none 0 0] 61)).heap.size from by simp; have := HB0.out; omega)
      clear e0 e1 e2 e3 e4 e5 e6 e7 e8 e9 e10 e11 HL HO HB0
      revert hbk HLA HOA HBA
      generalize wr.alloc (.cells #[.int .i64 (ra : Int), .int .i64 (rr : Int), .int .i64 (rl : Int), .int .i64 1, .string tn, .string ⟨#[49]⟩, .string ⟨#[]⟩, .bool false, .int .i64 0, .int .i64 0, .int .i64 0, .slice none 0 0] 61) = W1
      intro hbk HLA HOA HBA
      have f0 : W1.cell? ⟨wr.heap.size, 0, none⟩ = some (.int .i64 (ra : Int)) := hbk.cell 0
      have f1 : W1.cell? ⟨wr.heap.size, 1, none⟩ = some (.int .i64 (rr : Int)) := hbk.cell 1
      have f2 : W1.cell? ⟨wr.heap.size, 2, none⟩ = some (.int .i64 (rl : Int)) := hbk.cell 2
      have f3 : W1.cell? ⟨wr.heap.size, 3, none⟩ = some (.int .i64 1) := hbk.cell 3
      have f4 : W1.cell? ⟨wr.heap.size, 4, none⟩ = some (.string tn) := hbk.cell 4
      have f5 : W1.cell? ⟨wr.heap.size, 5, none⟩ = some (.string ⟨#[49]⟩) := hbk.cell 5
      have f6 : W1.cell? ⟨wr.heap.size, 6, none⟩ = some (.string ⟨#[]⟩) := hbk.cell 6
      have f7 : W1.cell? ⟨wr.heap.size, 7, none⟩ = some (.bool false) := hbk.cell 7
      have f8 : W1.cell? ⟨wr.heap.size, 8, none⟩ = some (.int .i64 0) := hbk.cell 8
      have f9 : W1.cell? ⟨wr.heap.size, 9, none⟩ = some (.int .i64 0) := hbk.cell 9
      have f10 : W1.cell? ⟨wr.heap.size, 10, none⟩ = some (.int .i64 0) := hbk.cell 10
      have f11 : W1.cell? ⟨wr.heap.size, 11, none⟩ = some (.slice none 0 0) := hbk.cell 11
      go_wp2_with (at_builtin; go_loud (refine wp_row1 94 24 2 32 frC _ Tryz.underlying94 fr_info rfl (by decide) fr_one rfl _ _ rfl (w.heap.size + 1) _ _ rfl HOA.out (N L[j]!) _ ?_ rfl (by omega) (by unfold maxLen; omega) HBA.out ?_); (rw [HTN.out]; rfl); intro v3 w3 ho hb hg; have x3 : w3.cell? ⟨wr.heap.size, 3, none⟩ = some (.int .i64 1) := (Blk.grown (hbk.alloc _) hg (RowOf.alloc HOA.out _) (by decide)).cell 3; have HO3 := Lib.hid ho; have HL3 := Lib.hid (HLA.out.stepB' hb (by omega) (fun x hx => by rw [List.mem_singleton.1 hx]; exact Nat.lt_succ_self _)); clear ho hb hg)
      go_roundw
      case rel => exact ⟨j + 1, by omega, by go_num, by go_num, Lib.hid (by rw [HNM.out j hlt]; exact HO3.out), HL3⟩
      case measure => simp [intOf]; omega
    · have hlz : ¬ (j : Int) < (n : Int) := by omega
      obtain rfl : j = n := by omega
      have hO := HO.out
      rw [HEN.out] at hO
      have HO := Lib.hid hO
      clear hO HC HNM HML
      have HZ := Lib.hid (HL.out.blk (g := w.heap.size) (t := 27) (List.mem_singleton.2 rfl))
      obtain ⟨A5, c5, h5⟩ := (RowOf.reads HO.out (fun x => (fr_one x).1)).shape
      rw [List.length_map, HHL.out] at h5
      subst h5
      have hrd := RowOf.reads HO.out (fun x => (fr_one x).1)
      have HEE := Lib.hid (end_any A5 j c5 (L.map N) how wr (HE.out.below HL.out.bel) hrd (by omega) (fun x hx => by
        obtain ⟨r, hr, rfl⟩ := List.mem_map.1 hx
        obtain ⟨q, hq, rfl⟩ := List.mem_iff_getElem.1 hr
        have := HNB.out q (by rw [← HHL.out]; exact hq)
        rw [getElem!_pos L q hq] at this
        omega) hh)
      have HRS := Lib.hid (show (if j = 0 then zV else if how = 3 then nV (mnL (L.map N)) else nV (mxL (L.map N))) = resV N how L from by rw [resV_end N how L hh, HHL.out])
      have h34 : how = 3 ∨ how = 4 := hh
      rw [HRS.out] at HEE
      obtain ⟨u, hu⟩ : ∃ u, u = resV N how L := ⟨_, rfl⟩
      rw [← hu] at HEE
      have HU := Lib.hid hu
      clear hrd hu hh HO HNB HSM HST HRS
      obtain ⟨rk, rnum, rden, rtext, ron, rcode, rrows, rcols, rA', rn, rc⟩ := u
      have HEE := Lib.hid (show Calls Tryz.prog 41 #[.slice A5 j c5, .int .i64 how] wr fun e w' => e = .returned (.agg #[.int .i64 rk, .string rnum, .string rden, .string rtext, .bool ron, .int .i64 rcode, .int .i64 rrows, .int .i64 rcols, .slice rA' rn rc]) ∧ Below wr.heap.size wr w' from HEE.out)
      rcases h34 with rfl | rfl
      all_goals
        go_wp2_with (go_at_call 41; (with_reducible refine HEE.out.mono ?_); rintro e w1 ⟨rfl, hb⟩; have HL1 := Lib.hid (HL.out.step hb); have bz := HL1.out.blk (g := w.heap.size) (t := 27) (cs := #[.int .i64 0, .string ⟨#[]⟩, .string ⟨#[]⟩, .string ⟨#[]⟩, .bool false, .int .i64 0, .int .i64 0, .int .i64 0, .slice none 0 0]) (List.mem_singleton.2 rfl); obtain ⟨z0, z1, z2, z3, z4, z5, z6, z7, z8⟩ := bz.nine; obtain ⟨f0, f1, f2, f3, f4, f5, f6, f7, f8⟩ := bz.ninef; obtain ⟨bs, c0, c1, c2, c3, c4, c5, c6, c7, c8⟩ := bz.nine_set (.int .i64 rk) (.string rnum) (.string rden) (.string rtext) (.bool ron) (.int .i64 rcode) (.int .i64 rrows) (.int .i64 rcols) (.slice rA' rn rc); have BS := Lib.hid bs; clear bz bs hb)
        obtain ⟨q0, q1, q2, q3, q4, q5, q6, q7, q8⟩ := BS.out.nine
        refine bodyPost_ret (v := .agg #[.int .i64 rk, .string rnum, .string rden, .string rtext, .bool ron, .int .i64 rcode, .int .i64 rrows, .int .i64 rcols, .slice rA' rn rc]) (by simp [results, Tryz.results19, go_sem, q0, q1, q2, q3, q4, q5, q6, q7, q8]) rfl ⟨by rw [← HU.out], below_nine HL1.out.bel (Nat.le_refl _) _ _ _ _ _ _ _ _ _⟩
end Go.Proofs.YtmapagbmihpbmaaGreatDoor

namespace Go.Proofs.YtmapagbmihpbmaaGreatDoor
open Go.RowKit

set_option maxRecDepth 100000 in
set_option maxHeartbeats 16000000 in
theorem result_two (N : Rm → Nat) (how : Int) (A : Option Addr) (n c : Nat) (L : List Rm) (w : World) (he : VEnv w) (hL : Reads 12 rmC w (.slice A n c) L) (hn : n ≤ 14) (hN : ∀ r ∈ L, r.v = nV (N r) ∧ N r ≤ 50) (hh : how = 2) :
    Calls Tryz.prog 19 #[.slice A n c, .int .i64 how] w fun e w' => e = .returned (.agg (vA (resV N how L))) ∧ Below w.heap.size w w' := by
  have hl : L.length = n := by
    obtain ⟨A', c', e, -⟩ := hL
    injection e with e1 e2 e3
    exact e2.symm
  have HPT := Lib.hid he.pw
  have HC := Lib.hid (show ∀ j (hj : j < n), ∃ (b o ra rr rl : Nat) (tn : ByteArray), A = some ⟨b, o, none⟩ ∧ tn = nt (N L[j]!) ∧ ∀ W, Below w.heap.size w W → ∀ q, q < 12 → W.cell? ⟨b, o + j * 12 + q, none⟩ = (#[.int .i64 (ra : Int), .int .i64 (rr : Int), .int .i64 (rl : Int), .int .i64 1, .string tn, .string ⟨#[49]⟩, .string ⟨#[]⟩, .bool false, .int .i64 0, .int .i64 0, .int .i64 0, .slice none 0 0] : Array Value)[q]? from fun j hj => by
    obtain ⟨A', c', e, -, -, h3⟩ := hL
    injection e with e1 e2 e3
    obtain ⟨b, o, e4, hb, hc⟩ := h3 (by omega)
    have hm : L[j]! ∈ L := by rw [getElem!_pos L j (by omega)]; exact List.getElem_mem _
    have hv := (hN _ hm).1
    refine ⟨b, o, L[j]!.at_, L[j]!.row, L[j]!.col, _, e1.trans e4, rfl, fun W hW q hq => ?_⟩
    have := hc j (by omega) q hq
    rw [← getElem!_pos L j (by omega), ← Nat.add_assoc] at this
    refine ((hW.cell (by exact hb)).trans this).trans ?_
    unfold rmC
    rw [hv]
    simp [nV, Vl.cs])
  have HNM := Lib.hid (show ∀ j, j < n → ((L.take (j + 1)).map N) = (L.take j).map N ++ [N L[j]!] from fun j hj => by
    rw [getElem!_pos L j (by omega), ← List.take_append_getElem (by omega), List.map_append]; rfl)
  have hsm : ∀ j, Pv.sm N (L.take j) ≤ 700 := fun j => by
    have h1 := Pv.sm_le N 50 (L.take j) (fun r hr => (hN r (List.mem_of_mem_take hr)).2)
    have h2 : (L.take j).length ≤ 14 := Nat.le_trans (List.length_take_le' _ _) (by omega)
    omega
  have HSM := Lib.hid hsm
  have HNB := Lib.hid (show ∀ j, j < n → N L[j]! ≤ 50 from fun j hj => (hN _ (by rw [getElem!_pos L j (by omega)]; exact List.getElem_mem _)).2)
  have HST := Lib.hid (show ∀ j, j < n → Pv.sm N (L.take (j + 1)) = Pv.sm N (L.take j) + N L[j]! from fun j hj => sm_take N L j (by omega))
  have HEN := Lib.hid (show L.take n = L from List.take_of_length_le (by omega))
  have HHL := Lib.hid hl
  have HE := Lib.hid he
  have HL0 := Lib.hid ((Loc.start w).alloc' rfl 27 #[.int .i64 0, .string ⟨#[]⟩, .string ⟨#[]⟩, .string ⟨#[]⟩, .bool false, .int .i64 0, .int .i64 0, .int .i64 0, .slice none 0 0])
  clear hL hN he hsm hl
  have hml : ∀ j, ((L.take j).map N).length ≤ 14 := fun j => by rw [List.length_map]; exact Nat.le_trans (List.length_take_le' _ _) (by have := HHL.out; omega)
  have HML := Lib.hid hml
  have HH := Lib.hid hh
  clear hh
  clear hml
  go_enter Tryz.func19, Tryz.ntmps19
  go_wp2_with fail
  go_loopw [5, 6, 16] (fun u5 u6 u16 wr => ∃ j : Nat, j ≤ n ∧ u6 = .int .i64 j ∧ u16 = .int .i64 j ∧ Hid (RowOf 24 2 frC wr (w.heap.size + 1) u5 ((L.take j).map N)) ∧ Hid (Loc w [(w.heap.size, 27, #[.int .i64 0, .string ⟨#[]⟩, .string ⟨#[]⟩, .string ⟨#[]⟩, .bool false, .int .i64 0, .int .i64 0, .int .i64 0, .slice none 0 0])] wr)) (fun _ _ u _ => n - (intOf u).toNat)
  case atStart => exact ⟨0, by omega, rfl, rfl, Lib.hid (RowOf.nil _ _), HL0⟩
  case round =>
    clear HL0
    obtain ⟨j, hj, rfl, rfl, HO, HL⟩ := hrel
    by_cases hlt : j < n
    · have hlz : (j : Int) < (n : Int) := by omega
      obtain ⟨b, o, ra, rr, rl, tn, rfl, htn, hcl⟩ := HC.out j hlt
      have HTN := Lib.hid htn
      have hml := HML.out j
      have e0 : wr.cell? ⟨b, o + j * 12, none⟩ = some (.int .i64 (ra : Int)) := hcl wr HL.out.bel 0 (by decide)
      have e1 : wr.cell? ⟨b, o + j * 12 + 1, none⟩ = some (.int .i64 (rr : Int)) := hcl wr HL.out.bel 1 (by decide)
      have e2 : wr.cell? ⟨b, o + j * 12 + 2, none⟩ = some (.int .i64 (rl : Int)) := hcl wr HL.out.bel 2 (by decide)
      have e3 : wr.cell? ⟨b, o + j * 12 + 3, none⟩ = some (.int .i64 1) := hcl wr HL.out.bel 3 (by decide)
      have e4 : wr.cell? ⟨b, o + j * 12 + 4, none⟩ = some (.string tn) := hcl wr HL.out.bel 4 (by decide)
      have e5 : wr.cell? ⟨b, o + j * 12 + 5, none⟩ = some (.string ⟨#[49]⟩) := hcl wr HL.out.bel 5 (by decide)
      have e6 : wr.cell? ⟨b, o + j * 12 + 6, none⟩ = some (.string ⟨#[]⟩) := hcl wr HL.out.bel 6 (by decide)
      have e7 : wr.cell? ⟨b, o + j * 12 + 7, none⟩ = some (.bool false) := hcl wr HL.out.bel 7 (by decide)
      have e8 : wr.cell? ⟨b, o + j * 12 + 8, none⟩ = some (.int .i64 0) := hcl wr HL.out.bel 8 (by decide)
      have e9 : wr.cell? ⟨b, o + j * 12 + 9, none⟩ = some (.int .i64 0) := hcl wr HL.out.bel 9 (by decide)
      have e10 : wr.cell? ⟨b, o + j * 12 + 10, none⟩ = some (.int .i64 0) := hcl wr HL.out.bel 10 (by decide)
      have e11 : wr.cell? ⟨b, o + j * 12 + 11, none⟩ = some (.slice none 0 0) := hcl wr HL.out.bel 11 (by decide)
      clear hcl htn
      have HB0 := Lib.hid (HL.out.lt (g := w.heap.size) (t := 27) (List.mem_singleton.2 rfl))
      go_upto_region 6 with fail
      have hbk := Blk.new wr 61 #[.int .i64 (ra : Int), .int .i64 (rr : Int), .int .i64 (rl : Int), .int .i64 1, .string tn, .string ⟨#[49]⟩, .string ⟨#[]⟩, .bool false, .int .i64 0, .int .i64 0, .int .i64 0, .slice none 0 0]
      have HLA := Lib.hid (HL.out.alloc0 (.cells #[.int .i64 (ra : Int), .int .i64 (rr : Int), .int .i64 (rl : Int), .int .i64 1, .string tn, .string ⟨#[49]⟩, .string ⟨#[]⟩, .bool false, .int .i64 0, .int .i64 0, .int .i64 0, .slice none 0 0] 61))
      have HOA := Lib.hid (RowOf.alloc HO.out (.cells #[.int .i64 (ra : Int), .int .i64 (rr : Int), .int .i64 (rl : Int), .int .i64 1, .string tn, .string ⟨#[49]⟩, .string ⟨#[]⟩, .bool false, .int .i64 0, .int .i64 0, .int .i64 0, .slice none 0 0] 61))
      have HBA := Lib.hid (show w.heap.size + 1 ≤ (wr.alloc (.cells #[.int .i64 (ra : Int), .int .i64 (rr : Int), .int .i64 (rl : Int), .int .i64 1, .string tn, .string ⟨#[49]⟩, .string ⟨#[]⟩, .bool false, .int .i64 0, .int .i64 0, .int .i64 0, .slice none 0 0] 61)).heap.size from by simp; have := HB0.out; omega)
      clear e0 e1 e2 e3 e4 e5 e6 e7 e8 e9 e10 e11 HL HO HB0
      revert hbk HLA HOA HBA
      generalize wr.alloc (.cells #[.int .i64 (ra : Int), .int .i64 (rr : Int), .int .i64 (rl : Int), .int .i64 1, .string tn, .string ⟨#[49]⟩, .string ⟨#[]⟩, .bool false, .int .i64 0, .int .i64 0, .int .i64 0, .slice none 0 0] 61) = W1
      intro hbk HLA HOA HBA
      have f0 : W1.cell? ⟨wr.heap.size, 0, none⟩ = some (.int .i64 (ra : Int)) := hbk.cell 0
      have f1 : W1.cell? ⟨wr.heap.size, 1, none⟩ = some (.int .i64 (rr : Int)) := hbk.cell 1
      have f2 : W1.cell? ⟨wr.heap.size, 2, none⟩ = some (.int .i64 (rl : Int)) := hbk.cell 2
      have f3 : W1.cell? ⟨wr.heap.size, 3, none⟩ = some (.int .i64 1) := hbk.cell 3
      have f4 : W1.cell? ⟨wr.heap.size, 4, none⟩ = some (.string tn) := hbk.cell 4
      have f5 : W1.cell? ⟨wr.heap.size, 5, none⟩ = some (.string ⟨#[49]⟩) := hbk.cell 5
      have f6 : W1.cell? ⟨wr.heap.size, 6, none⟩ = some (.string ⟨#[]⟩) := hbk.cell 6
      have f7 : W1.cell? ⟨wr.heap.size, 7, none⟩ = some (.bool false) := hbk.cell 7
      have f8 : W1.cell? ⟨wr.heap.size, 8, none⟩ = some (.int .i64 0) := hbk.cell 8
      have f9 : W1.cell? ⟨wr.heap.size, 9, none⟩ = some (.int .i64 0) := hbk.cell 9
      have f10 : W1.cell? ⟨wr.heap.size, 10, none⟩ = some (.int .i64 0) := hbk.cell 10
      have f11 : W1.cell? ⟨wr.heap.size, 11, none⟩ = some (.slice none 0 0) := hbk.cell 11
      go_wp2_with (at_builtin; go_loud (refine wp_row1 94 24 2 32 frC _ Tryz.underlying94 fr_info rfl (by decide) fr_one rfl _ _ rfl (w.heap.size + 1) _ _ rfl HOA.out (N L[j]!) _ ?_ rfl (by omega) (by unfold maxLen; omega) HBA.out ?_); (rw [HTN.out]; rfl); intro v3 w3 ho hb hg; have x3 : w3.cell? ⟨wr.heap.size, 3, none⟩ = some (.int .i64 1) := (Blk.grown (hbk.alloc _) hg (RowOf.alloc HOA.out _) (by decide)).cell 3; have HO3 := Lib.hid ho; have HL3 := Lib.hid (HLA.out.stepB' hb (by omega) (fun x hx => by rw [List.mem_singleton.1 hx]; exact Nat.lt_succ_self _)); clear ho hb hg)
      go_roundw
      case rel => exact ⟨j + 1, by omega, by go_num, by go_num, Lib.hid (by rw [HNM.out j hlt]; exact HO3.out), HL3⟩
      case measure => simp [intOf]; omega
    · have hlz : ¬ (j : Int) < (n : Int) := by omega
      obtain rfl : j = n := by omega
      have hO := HO.out
      rw [HEN.out] at hO
      have HO := Lib.hid hO
      clear hO HC HNM HML
      have HZ := Lib.hid (HL.out.blk (g := w.heap.size) (t := 27) (List.mem_singleton.2 rfl))
      obtain rfl := HH.out
      clear HH
      obtain ⟨A5, c5, h5⟩ := (RowOf.reads HO.out (fun x => (fr_one x).1)).shape
      rw [List.length_map, HHL.out] at h5
      subst h5
      by_cases hj0 : j = 0
      · subst hj0
        have HRV := Lib.hid (show resV N 2 L = zV from by simp [resV, HHL.out])
        have bz := HL.out.blk (g := w.heap.size) (t := 27) (cs := #[.int .i64 0, .string ⟨#[]⟩, .string ⟨#[]⟩, .string ⟨#[]⟩, .bool false, .int .i64 0, .int .i64 0, .int .i64 0, .slice none 0 0]) (List.mem_singleton.2 rfl)
        obtain ⟨z0, z1, z2, z3, z4, z5, z6, z7, z8⟩ := bz.nine
        obtain ⟨f0, f1, f2, f3, f4, f5, f6, f7, f8⟩ := bz.ninef
        obtain ⟨bs, c0, c1, c2, c3, c4, c5, c6, c7, c8⟩ := bz.nine_set (.int .i64 0) (.string ⟨#[]⟩) (.string ⟨#[]⟩) (.string ⟨#[]⟩) (.bool false) (.int .i64 0) (.int .i64 0) (.int .i64 0) (.slice none 0 0)
        have BS := Lib.hid bs
        clear bs bz HZ HO HHL
        go_wp2_with fail
        obtain ⟨q0, q1, q2, q3, q4, q5, q6, q7, q8⟩ := BS.out.nine
        refine bodyPost_ret (v := .agg #[.int .i64 0, .string ⟨#[]⟩, .string ⟨#[]⟩, .string ⟨#[]⟩, .bool false, .int .i64 0, .int .i64 0, .int .i64 0, .slice none 0 0]) (by simp [results, Tryz.results19, go_sem, q0, q1, q2, q3, q4, q5, q6, q7, q8]) rfl ⟨by rw [HRV.out]; rfl, below_nine HL.out.bel (Nat.le_refl _) _ _ _ _ _ _ _ _ _⟩
      · skip
        have hb0 : ((j : Int) == 0) = false := by rw [beq_eq_false_iff_ne]; omega
        have HJ0 := Lib.hid hj0
        clear hj0
        obtain ⟨t0, ht0⟩ : ∃ t, t = nt 0 := ⟨_, rfl⟩
        have HT0 := Lib.hid ht0
        have HOF := Lib.hid (show Calls Tryz.prog 7 #[.int .i64 0] wr fun e w' => e = .returned (.agg #[.string t0, .string ⟨#[49]⟩]) ∧ Below wr.heap.size wr w' from by rw [ht0]; exact of_t 0 wr (by decide) (Lib.tabBelow_of_tabIs HPT.out wr HL.out.bel))
        clear ht0
        go_wp2_with (go_at_call 7; (with_reducible refine HOF.out.mono ?_); rintro e w1 ⟨rfl, hb⟩; have HL1 := Lib.hid (HL.out.step hb); have HO1 := Lib.hid (RowOf.later HO.out hb); clear hb)
        have hRD := RowOf.reads HO1.out (fun x => (fr_one x).1)
        have HRD := Lib.hid hRD
        obtain ⟨A5', c5', h5, -, -, h5c⟩ := hRD
        injection h5 with h5 h5b h5d
        subst h5 h5d
        clear h5b
        have HCC := Lib.hid (show ∀ q, q < j → ∃ b o tn, A5 = some ⟨b, o, none⟩ ∧ tn = nt (N L[q]!) ∧ ∀ W, Below w1.heap.size w1 W → W.cell? ⟨b, o + q * 2, none⟩ = some (.string tn) ∧ W.cell? ⟨b, o + q * 2 + 1, none⟩ = some (.string ⟨#[49]⟩) from fun q hq => by
          have hq' : q < L.length := by rw [HHL.out]; exact hq
          obtain ⟨b, o, e4, hb, hc⟩ := h5c (by rw [List.length_map]; omega)
          refine ⟨b, o, _, e4, rfl, fun W hW => ⟨(hW.cell (by exact hb)).trans ?_, (hW.cell (by exact hb)).trans ?_⟩⟩
          · have := hc q (by rw [List.length_map]; exact hq') 0 (by decide)
            rw [List.getElem_map, ← getElem!_pos L q hq', Nat.add_zero] at this
            exact this
          · have := hc q (by rw [List.length_map]; exact hq') 1 (by decide)
            rw [List.getElem_map, ← getElem!_pos L q hq', ← Nat.add_assoc] at this
            exact this)
        have HL2 := Lib.hid (HL1.out.alloc' (g := w1.heap.size) rfl 24 #[.string t0, .string ⟨#[49]⟩])
        have HWW := Lib.hid (show w.heap.size < w1.heap.size from HL1.out.lt (g := w.heap.size) (t := 27) (List.mem_singleton.2 rfl))
        have HB2 := Lib.hid ((Below.refl w1.heap.size w1).alloc (Nat.le_refl _) (.cells #[.string t0, .string ⟨#[49]⟩] 24))
        clear h5c HRD HL HL1 HOF HO1 HO HZ
        go_loopw [76] (fun u76 wr => ∃ (q : Nat) (ts : ByteArray), q ≤ j ∧ u76 = .int .i64 q ∧ ts = nt (Pv.sm N (L.take q)) ∧ Hid (Loc w [(w1.heap.size, 24, #[.string ts, .string ⟨#[49]⟩]), (w.heap.size, 27, #[.int .i64 0, .string ⟨#[]⟩, .string ⟨#[]⟩, .string ⟨#[]⟩, .bool false, .int .i64 0, .int .i64 0, .int .i64 0, .slice none 0 0])] wr) ∧ Hid (Below w1.heap.size w1 wr)) (fun u _ => j - (intOf u).toNat)
        case atStart => exact ⟨0, t0, by omega, rfl, HT0.out, HL2, HB2⟩
        case round =>
          clear HL2 HB2
          obtain ⟨q, ts, hq, rfl, hts, HL, HB⟩ := hrel
          have bs := HL.out.blk (g := w1.heap.size) (t := 24) (List.mem_cons_self ..)
          have HBS := Lib.hid bs
          obtain ⟨x0, x1, y0, y1⟩ := bs.two
          clear bs
          by_cases hqt : q < j
          · have hqz : (q : Int) < (j : Int) := by omega
            obtain ⟨b, o, tn, rfl, htn, hcl⟩ := HCC.out q hqt
            obtain ⟨v0, v1⟩ := hcl wr HB.out
            have hs1 := HSM.out q
            have hs2 := HNB.out q hqt
            obtain ⟨tm, htm⟩ : ∃ tm, tm = nt (Pv.sm N (L.take (q + 1))) := ⟨_, rfl⟩
            have HTM := Lib.hid htm
            have HAD := Lib.hid (show ∀ W, Below wr.heap.size wr W → Calls Tryz.prog 8 #[.agg #[.string ts, .string ⟨#[49]⟩], .agg #[.string tn, .string ⟨#[49]⟩]] W fun e w' => e = .returned (.tuple #[.agg #[.string tm, .string ⟨#[49]⟩], .int .i64 0]) ∧ Below W.heap.size W w' from fun W hW => by
              rw [hts, htn, htm, HST.out q hqt]
              exact add_nat _ _ W (by omega) (by omega) (Lib.tabBelow_of_tabIs HPT.out W (HL.out.bel.trans (hW.mono HL.out.bel.size))))
            clear hcl htm hts htn
            go_upto_region 24 with fail
            have HLA := Lib.hid (HL.out.alloc0 (.cells #[.string tn, .string ⟨#[49]⟩] 24))
            have hbA : Below wr.heap.size wr (wr.alloc (.cells #[.string tn, .string ⟨#[49]⟩] 24)) := (Below.refl _ _).alloc (Nat.le_refl _) _
            have HBA := Lib.hid hbA
            have p0 : (wr.alloc (.cells #[.string tn, .string ⟨#[49]⟩] 24)).cell? ⟨wr.heap.size, 0, none⟩ = some (.string tn) := (Blk.new wr 24 #[.string tn, .string ⟨#[49]⟩]).cell 0
            have p1 : (wr.alloc (.cells #[.string tn, .string ⟨#[49]⟩] 24)).cell? ⟨wr.heap.size, 1, none⟩ = some (.string ⟨#[49]⟩) := (Blk.new wr 24 #[.string tn, .string ⟨#[49]⟩]).cell 1
            have HBB := Lib.hid (HB.out.trans (hbA.mono HB.out.size))
            clear x0 x1 y0 y1 v0 v1 hbA
            revert HLA HBA p0 p1 HBB
            generalize wr.alloc (.cells #[.string tn, .string ⟨#[49]⟩] 24) = W1
            intro HLA HBA p0 p1 HBB
            obtain ⟨x0, x1, y0, y1⟩ := (HLA.out.blk (g := w1.heap.size) (t := 24) (List.mem_cons_self ..)).two
            go_wp2_with (go_at_call 8; (with_reducible refine (HAD.out _ HBA.out).mono ?_); go_loud (rintro e w5 ⟨rfl, hb⟩); go_loud (have HL5 := Lib.hid (HLA.out.step hb)); go_loud (have HB5 := Lib.hid (HBB.out.trans (hb.mono HBB.out.size))); go_loud (clear hb x0 x1 y0 y1); go_loud (obtain ⟨x0, x1, y0, y1⟩ := (HL5.out.blk (g := w1.heap.size) (t := 24) (List.mem_cons_self ..)).two))
            go_roundw
            case rel => exact ⟨q + 1, tm, by omega, by go_num, HTM.out, Lib.hid (HL5.out.set2 (fun x hx => by rw [List.mem_singleton.1 hx]; exact Nat.ne_of_lt HWW.out) _ _), Lib.hid (below_two HB5.out (Nat.le_refl _) _ _)⟩
            case measure => simp [intOf]; omega
          · have hqz : ¬ (q : Int) < (j : Int) := by omega
            obtain rfl : q = j := by omega
            rw [HEN.out] at hts
            have HTS := Lib.hid hts
            have hs1 := HSM.out q
            rw [HEN.out] at hs1
            have HJQ := Lib.hid (show 0 < q from by have := HJ0.out; omega)
            obtain ⟨sm, hsmq⟩ : ∃ sm, sm = Pv.sm N L := ⟨_, rfl⟩
            rw [← hsmq] at hts hs1 HTS
            obtain ⟨tn, htn⟩ : ∃ t, t = nt q := ⟨_, rfl⟩
            obtain ⟨tp, htp⟩ : ∃ t, t = nt (sm / Nat.gcd sm q) := ⟨_, rfl⟩
            obtain ⟨td, htd⟩ : ∃ t, t = nt (q / Nat.gcd sm q) := ⟨_, rfl⟩
            have HO2 := Lib.hid (show ∀ W, Below wr.heap.size wr W → Calls Tryz.prog 7 #[.int .i64 (q : Int)] W fun e w' => e = .returned (.agg #[.string tn, .string ⟨#[49]⟩]) ∧ Below W.heap.size W w' from fun W hW => by rw [htn]; exact of_t q W (by omega) (Lib.tabBelow_of_tabIs HPT.out W (HL.out.bel.trans (hW.mono HL.out.bel.size))))
            have HDV := Lib.hid (show ∀ W, Below wr.heap.size wr W → Calls Tryz.prog 43 #[.agg #[.string ts, .string ⟨#[49]⟩], .agg #[.string tn, .string ⟨#[49]⟩]] W fun e w' => e = .returned (.tuple #[.agg #[.string tp, .string td], .int .i64 0]) ∧ Below W.heap.size W w' from fun W hW => by
              rw [hts, htn, htp, htd]
              exact div_nat sm q W (by omega) (by omega) HJQ.out (Lib.tabBelow_of_tabIs HPT.out W (HL.out.bel.trans (hW.mono HL.out.bel.size))))
            have hgp : 0 < Nat.gcd sm q := Nat.gcd_pos_of_pos_right _ HJQ.out
            have hpb : sm / Nat.gcd sm q ≤ sm := Nat.div_le_self _ _
            have hdb : q / Nat.gcd sm q ≤ q := Nat.div_le_self _ _
            have hd0 : q / Nat.gcd sm q ≠ 0 := Nat.ne_of_gt (Nat.div_pos (Nat.gcd_le_right _ HJQ.out) hgp)
            have hrd := rd_of (sm / Nat.gcd sm q) (q / Nat.gcd sm q) (by omega) (by omega) hd0 (by
              obtain ⟨a, ha⟩ := Nat.gcd_dvd_left sm q
              obtain ⟨b, hb⟩ := Nat.gcd_dvd_right sm q
              have ea : sm / Nat.gcd sm q = a := by
                conv => lhs; arg 1; rw [ha]
                exact Nat.mul_div_cancel_left _ hgp
              have eb : q / Nat.gcd sm q = b := by
                conv => lhs; arg 1; rw [hb]
                exact Nat.mul_div_cancel_left _ hgp
              rw [ea, eb]
              have e : Nat.gcd (Nat.gcd sm q * a) (Nat.gcd sm q * b) = Nat.gcd sm q * Nat.gcd a b := Nat.gcd_mul_left _ _ _
              rw [← ha, ← hb] at e
              exact Nat.eq_of_mul_eq_mul_left hgp (by rw [Nat.mul_one]; exact e.symm))
            have HNU := Lib.hid (show ∀ W, Below w.heap.size w W → Calls Tryz.prog 44 #[.agg #[.string tp, .string td]] W fun e w' => e = .returned (.agg #[.int .i64 1, .string tp, .string td, .string ⟨#[]⟩, .bool false, .int .i64 0, .int .i64 0, .int .i64 0, .slice none 0 0]) ∧ Below W.heap.size W w' from fun W hW => by
              rw [htp, htd]
              exact number_t _ _ W (HE.out.below hW) ⟨_, _, _, hrd⟩ (by have := nt_size (sm / Nat.gcd sm q) (by omega); omega) (by have := nt_size (q / Nat.gcd sm q) (by omega); omega))
            have HRV := Lib.hid (show resV N 2 L = ⟨1, tp, td, ⟨#[]⟩, false, 0, 0, 0, none, 0, 0⟩ from by
              unfold resV
              rw [if_neg (by decide), if_neg (by decide), HHL.out, if_neg (Nat.ne_of_gt HJQ.out), if_pos rfl, ← hsmq, htp, htd]
              rfl)
            have HSC := Lib.hid (show ∀ W, Loc w [(w1.heap.size, 24, #[.string ts, .string ⟨#[49]⟩]), (w.heap.size, 27, #[.int .i64 0, .string ⟨#[]⟩, .string ⟨#[]⟩, .string ⟨#[]⟩, .bool false, .int .i64 0, .int .i64 0, .int .i64 0, .slice none 0 0])] W → W.cell? ⟨w1.heap.size, 0, none⟩ = some (.string ts) ∧ W.cell? ⟨w1.heap.size, 1, none⟩ = some (.string ⟨#[49]⟩) from fun W h => ⟨(h.blk (g := w1.heap.size) (t := 24) (List.mem_cons_self ..)).cell 0, (h.blk (g := w1.heap.size) (t := 24) (List.mem_cons_self ..)).cell 1⟩)
            clear hts hs1 hsmq htn htp htd hgp hpb hdb hd0 hrd hb0 x0 x1 y0 y1 HBS
            go_upto_region 30 with fail
            refine wp_region_G (S1 := fun _ => True) (S2 := fun W => W.cell? ⟨w1.heap.size, 0, none⟩ = some (.string ts) ∧ W.cell? ⟨w1.heap.size, 1, none⟩ = some (.string ⟨#[49]⟩)) (d := 8) (by kernel_rfl) trivial (HSC.out _ HL.out.drew) (fun hT => ?_)
            refine wpAnyG_take2d (i := 0) (v := ?_) rfl rfl (by kernel_rfl) (by kernel_rfl) (by kernel_rfl) (by kernel_rfl) (by kernel_rfl) (by kernel_rfl) (fun _ _ _ h => h) (Or.inl ⟨by rfl, ?_⟩) (by assumption) (fun hT => ?_)
            rotate_left
            · intro w hSw
              (try dsimp only at hSw)
              go_simp
              (try with_reducible rfl)
            (try simp only [Act.put, List.setIfInBounds_toArray, List.set_cons_zero, List.set_cons_succ])
            refine wpAnyG_take1d (i := 1) (v := ?_) rfl rfl (by kernel_rfl) (by kernel_rfl) (by kernel_rfl) (by kernel_rfl) (fun _ _ _ h => h) (Or.inl ⟨by rfl, ?_⟩) (by assumption) (fun hT => ?_)
            rotate_left
            · intro w hSw
              (try dsimp only at hSw)
              go_simp
              (try with_reducible rfl)
            (try simp only [Act.put, List.setIfInBounds_toArray, List.set_cons_zero, List.set_cons_succ])
            refine wpAnyG_ready (rs := [2]) (by kernel_rfl) (by simp) ?_
            refine AllG.cons (i := 2) rfl (fun K hK => ?_) AllG.nil
            go_simp
            refine hK.out _ _ ⟨trivial, .inr (HSC.out _ HL.out.drew)⟩ (fun hT => ?_)
            clear hK K
            (try simp only [Act.put, List.setIfInBounds_toArray, List.set_cons_zero, List.set_cons_succ])
            refine wpAnyG_ready (rs := [3]) (by kernel_rfl) (by simp) ?_
            refine AllG.cons (i := 3) rfl (fun K hK => ?_) AllG.nil
            go_simp
            go_at_call 7
            with_reducible refine (HO2.out _ (Below.drew (Below.refl _ _))).mono ?_
            rintro e w5 ⟨rfl, hb⟩
            have HL5 := Lib.hid (HL.out.drew.step hb)
            have HB5 := Lib.hid ((Below.drew (Below.refl wr.heap.size wr)).trans hb)
            clear hb
            refine hK.out _ _ ⟨trivial, .inr (HSC.out _ HL5.out)⟩ (fun hT => ?_)
            clear hK K
            (try simp only [Act.put, List.setIfInBounds_toArray, List.set_cons_zero, List.set_cons_succ])
            refine wpAnyG_ready (rs := [4]) (by kernel_rfl) (by simp) ?_
            refine AllG.cons (i := 4) rfl (fun K hK => ?_) AllG.nil
            go_simp
            go_at_call 43
            with_reducible refine (HDV.out _ HB5.out).mono ?_
            rintro e w6 ⟨rfl, hb⟩
            have HL6 := Lib.hid (HL5.out.step hb)
            have HB6 := Lib.hid (HB5.out.trans (hb.mono HB5.out.size))
            clear hb
            obtain ⟨x0, x1, y0, y1⟩ := (HL6.out.blk (g := w1.heap.size) (t := 24) (List.mem_cons_self ..)).two
            refine hK.out _ _ ⟨trivial, .inr (HSC.out _ HL6.out)⟩ (fun hT => ?_)
            clear hK K
            (try simp only [Act.put, List.setIfInBounds_toArray, List.set_cons_zero, List.set_cons_succ])
            refine wpAnyG_take1d (i := 5) (v := ?_) rfl rfl (by kernel_rfl) (by kernel_rfl) (by kernel_rfl) (by kernel_rfl) (fun _ _ _ h => h) (Or.inl ⟨by rfl, ?_⟩) (by assumption) (fun hT => ?_)
            rotate_left
            · intro w hSw
              (try dsimp only at hSw)
              go_simp
              (try with_reducible rfl)
            (try simp only [Act.put, List.setIfInBounds_toArray, List.set_cons_zero, List.set_cons_succ])
            refine wpAnyG_take1d (i := 6) (v := ?_) rfl rfl (by kernel_rfl) (by kernel_rfl) (by kernel_rfl) (by kernel_rfl) (fun _ _ _ h => h) (Or.inl ⟨by rfl, ?_⟩) (by assumption) (fun hT => ?_)
            rotate_left
            · intro w hSw
              (try dsimp only at hSw)
              go_simp
              (try with_reducible rfl)
            (try simp only [Act.put, List.setIfInBounds_toArray, List.set_cons_zero, List.set_cons_succ])
            refine wpAnyG_take1d (i := 7) (v := ?_) rfl rfl (by kernel_rfl) (by kernel_rfl) (by kernel_rfl) (by kernel_rfl) (fun _ _ _ h => h) (Or.inl ⟨by rfl, ?_⟩) (by assumption) (fun hT => ?_)
            rotate_left
            · intro w hSw
              (try dsimp only at hSw)
              go_simp
              (try with_reducible rfl)
            (try simp only [Act.put, List.setIfInBounds_toArray, List.set_cons_zero, List.set_cons_succ])
            refine wpAnyG_ready (rs := [8]) (by kernel_rfl) (by simp) ?_
            refine AllG.cons (i := 8) rfl (fun K hK => ?_) AllG.nil
            go_simp
            have HL7 := Lib.hid (HL6.out.set2 (fun x hx => by rw [List.mem_singleton.1 hx]; exact Nat.ne_of_lt HWW.out) (.string tp) (.string td))
            have HB7 := Lib.hid (HB6.out.size)
            refine hK.out _ _ ⟨trivial, .inl rfl⟩ (fun hT => ?_)
            clear hK K
            (try simp only [Act.put, List.setIfInBounds_toArray, List.set_cons_zero, List.set_cons_succ])
            refine wpAnyG_take1d (i := 9) (v := ?_) rfl rfl (by kernel_rfl) (by kernel_rfl) (by kernel_rfl) (by kernel_rfl) (fun _ _ _ h => h) (Or.inl ⟨by rfl, ?_⟩) (by assumption) (fun hT => ?_)
            rotate_left
            · intro w hSw
              (try dsimp only at hSw)
              go_simp
              (try with_reducible rfl)
            (try simp only [Act.put, List.setIfInBounds_toArray, List.set_cons_zero, List.set_cons_succ])
            refine wpAnyG_done (by kernel_rfl) ?_ _
            obtain ⟨v0, v1, -, -⟩ := (HL7.out.blk (g := w1.heap.size) (t := 24) (List.mem_cons_self ..)).two
            clear x0 x1 y0 y1
            revert HL7 v0 v1
            generalize (w6.setCell ⟨w1.heap.size, 0, none⟩ (.string tp)).setCell ⟨w1.heap.size, 1, none⟩ (.string td) = W7
            intro HL7 v0 v1
            go_wp2_with (go_at_call 44; (with_reducible refine (HNU.out _ HL7.out.bel).mono ?_); rintro e w8 ⟨rfl, hb⟩; have HL8 := Lib.hid (HL7.out.step hb); have bz := HL8.out.blk (g := w.heap.size) (t := 27) (cs := #[.int .i64 0, .string ⟨#[]⟩, .string ⟨#[]⟩, .string ⟨#[]⟩, .bool false, .int .i64 0, .int .i64 0, .int .i64 0, .slice none 0 0]) (List.mem_cons_of_mem _ (List.mem_singleton.2 rfl)); obtain ⟨z0, z1, z2, z3, z4, z5, z6, z7, z8⟩ := bz.nine; obtain ⟨f0, f1, f2, f3, f4, f5, f6, f7, f8⟩ := bz.ninef; obtain ⟨bs, c0, c1, c2, c3, c4, c5, c6, c7, c8⟩ := bz.nine_set (.int .i64 1) (.string tp) (.string td) (.string ⟨#[]⟩) (.bool false) (.int .i64 0) (.int .i64 0) (.int .i64 0) (.slice none 0 0); have BS := Lib.hid bs; clear bz bs; clear hb)
            obtain ⟨q0, q1, q2, q3, q4, q5, q6, q7, q8⟩ := BS.out.nine
            refine bodyPost_ret (v := .agg #[.int .i64 1, .string tp, .string td, .string ⟨#[]⟩, .bool false, .int .i64 0, .int .i64 0, .int .i64 0, .slice none 0 0]) (by simp [results, Tryz.results19, go_sem, q0, q1, q2, q3, q4, q5, q6, q7, q8]) rfl ⟨by rw [HRV.out], below_nine HL8.out.bel (Nat.le_refl _) _ _ _ _ _ _ _ _ _⟩
/-- The records of a group are combined, in whatever of the five ways. -/
theorem result_g (N : Rm → Nat) (how : Int) (A : Option Addr) (n c : Nat) (L : List Rm) (w : World) (he : VEnv w) (hL : Reads 12 rmC w (.slice A n c) L) (hn : n ≤ 14) (hN : ∀ r ∈ L, r.v = nV (N r) ∧ N r ≤ 50) (hh : 0 ≤ how ∧ how ≤ 4) :
    Calls Tryz.prog 19 #[.slice A n c, .int .i64 how] w fun e w' => e = .returned (.agg (vA (resV N how L))) ∧ Below w.heap.size w w' := by
  rcases (show how = 0 ∨ how = 1 ∨ how = 2 ∨ how = 3 ∨ how = 4 by omega) with rfl | rfl | rfl | rfl | rfl
  · have := result_any N 0 A n c L w he hL hn hN (.inl rfl)
    have e : resV N 0 L = nV (resN N 0 L) := by simp [resV, resN]
    rw [e]
    exact this
  · have := result_any N 1 A n c L w he hL hn hN (.inr rfl)
    have e : resV N 1 L = nV (resN N 1 L) := by simp [resV, resN]
    rw [e]
    exact this
  · exact result_two N 2 A n c L w he hL hn hN rfl
  · exact result_end N 3 A n c L w he hL hn hN (.inl rfl)
  · exact result_end N 4 A n c L w he hL hn hN (.inr rfl)
end Go.Proofs.YtmapagbmihpbmaaGreatDoor

namespace Go.Proofs.YtmapagbmihpbmaaGreatDoor
open Go.RowKit

def xAt (Z : List Int) (i : Nat) : Int := if h : i < Z.length then Z[i] else (i : Int)
def wdL : Nat → ByteArray
  | 0 => ⟨#[97]⟩
  | 1 => ⟨#[98]⟩
  | 2 => ⟨#[65]⟩
  | _ => ⟨#[99]⟩
def headT : ByteArray := ⟨#[104, 101, 97, 100]⟩
def itm (cols : Nat) (Z : List Int) (i : Nat) : Vl := if i < cols then tV ⟨#[104, 101, 97, 100]⟩ else if i % cols = cols - 1 then nV (xAt Z i % 50).toNat else tV (wdL (xAt Z i % 4).toNat)
def itms (cols : Nat) (Z : List Int) (n : Nat) : List Vl := (List.range n).map (itm cols Z)
theorem itms_len (cols : Nat) (Z : List Int) (n : Nat) : (itms cols Z n).length = n := by simp [itms]
theorem itms_get (cols : Nat) (Z : List Int) (n i : Nat) (h : i < n) : (itms cols Z n)[i]! = itm cols Z i := by
  rw [getElem!_pos _ i (by rw [itms_len]; exact h)]
  simp [itms]
theorem wd_txt (k : Nat) : txtE (wdL k) = 0 := by
  match k with
  | 0 => decide +kernel
  | 1 => decide +kernel
  | 2 => decide +kernel
  | k + 3 => exact (show txtE ⟨#[99]⟩ = 0 by decide +kernel)
theorem head_txt : txtE ⟨#[104, 101, 97, 100]⟩ = 0 := by decide +kernel
theorem wd_size (k : Nat) : (wdL k).size ≤ 9223372036854775807 := by
  match k with
  | 0 => decide
  | 1 => decide
  | 2 => decide
  | k + 3 => exact (show (⟨#[99]⟩ : ByteArray).size ≤ _ by decide)
theorem n50 (x : Int) : (x % 50).toNat < 50 := by omega
theorem itm_ok (cols : Nat) (Z : List Int) (i : Nat) : (itm cols Z i).ok := by
  unfold itm
  split
  · exact tval_ok head_txt
  · split
    · exact nV_ok _ (by have := n50 (xAt Z i); omega)
    · exact tval_ok (wd_txt _)
theorem itm_sz (cols : Nat) (Z : List Int) (i : Nat) : (itm cols Z i).sz := by
  unfold itm
  split
  · exact ⟨by decide, by decide, by decide⟩
  · split
    · exact ⟨Nat.le_trans (nt_size _ (by have := n50 (xAt Z i); omega)) (by decide), (show (⟨#[49]⟩ : ByteArray).size ≤ 9223372036854775807 by decide), (show (⟨#[]⟩ : ByteArray).size ≤ 9223372036854775807 by decide)⟩
    · exact ⟨(show (⟨#[]⟩ : ByteArray).size ≤ 9223372036854775807 by decide), (show (⟨#[]⟩ : ByteArray).size ≤ 9223372036854775807 by decide), wd_size _⟩
theorem itms_all (cols : Nat) (Z : List Int) (n : Nat) : ∀ u ∈ itms cols Z n, u.ok ∧ u.sz := fun u hu => by
  obtain ⟨i, -, rfl⟩ := List.mem_map.1 hu
  exact ⟨itm_ok _ _ _, itm_sz _ _ _⟩
theorem itm_num (Z : List Int) (i : Nat) : itm 3 Z ((i + 1) * 3 + 2) = nV (xAt Z ((i + 1) * 3 + 2) % 50).toNat := by
  unfold itm
  rw [if_neg (by omega), if_pos (by omega)]
end Go.Proofs.YtmapagbmihpbmaaGreatDoor

namespace Go.Proofs.YtmapagbmihpbmaaGreatDoor
open Go.RowKit

theorem Loc.set9 {w W : World} {L : List (Nat × TypeId × Array Value)} {g : Nat} {t : TypeId} {x0 x1 x2 x3 x4 x5 x6 x7 x8 : Value} (h : Loc w ((g, t, #[x0, x1, x2, x3, x4, x5, x6, x7, x8]) :: L) W) (hne : ∀ x ∈ L, x.1 ≠ g) (y0 y1 y2 y3 y4 y5 y6 y7 y8 : Value) :
    Loc w ((g, t, #[y0, y1, y2, y3, y4, y5, y6, y7, y8]) :: L) (((((((((W.setCell ⟨g, 0, none⟩ y0).setCell ⟨g, 1, none⟩ y1).setCell ⟨g, 2, none⟩ y2).setCell ⟨g, 3, none⟩ y3).setCell ⟨g, 4, none⟩ y4).setCell ⟨g, 5, none⟩ y5).setCell ⟨g, 6, none⟩ y6).setCell ⟨g, 7, none⟩ y7).setCell ⟨g, 8, none⟩ y8) :=
  ⟨below_nine h.1 (h.2 _ (List.mem_cons_self ..)).1 _ _ _ _ _ _ _ _ _, fun x hx => by
    rcases List.mem_cons.1 hx with rfl | hx
    · exact ⟨(h.2 _ (List.mem_cons_self ..)).1, ((h.2 _ (List.mem_cons_self ..)).2.nine_set _ _ _ _ _ _ _ _ _).1⟩
    · have := h.2 x (List.mem_cons_of_mem _ hx)
      exact ⟨this.1, this.2.nine_far (hne x hx) _ _ _ _ _ _ _ _ _⟩⟩
set_option maxRecDepth 100000 in
set_option maxHeartbeats 8000000 in
theorem same_h (k : Int) (num den text : ByteArray) (on : Bool) (code rows cols : Int) (A1 A2 : Option Addr) (n1 c1 n2 c2 : Nat) (w : World) (H : ∀ W, Below w.heap.size w W → Calls Tryz.prog 32 #[.slice A1 n1 c1, .slice A2 n2 c2, .func (.func 14) #[] #[]] W fun e w' => e = .returned (.bool true) ∧ Below W.heap.size W w') :
    Calls Tryz.prog 14 #[.agg #[.int .i64 k, .string num, .string den, .string text, .bool on, .int .i64 code, .int .i64 rows, .int .i64 cols, .slice A1 n1 c1], .agg #[.int .i64 k, .string num, .string den, .string text, .bool on, .int .i64 code, .int .i64 rows, .int .i64 cols, .slice A2 n2 c2]] w fun e w' => e = .returned (.bool true) ∧ Below w.heap.size w w' := by
  have HH := Lib.hid H
  clear H
  have HL0 := Lib.hid (((Loc.start w).alloc' rfl 27 #[.int .i64 k, .string num, .string den, .string text, .bool on, .int .i64 code, .int .i64 rows, .int .i64 cols, .slice A1 n1 c1]).alloc' (g := w.heap.size + 1) (by simp) 27 #[.int .i64 k, .string num, .string den, .string text, .bool on, .int .i64 code, .int .i64 rows, .int .i64 cols, .slice A2 n2 c2])
  have HQ := fr_eql_self num den
  go_enter Tryz.func14, Tryz.ntmps14
  go_upto_region 1 with fail
  revert HL0
  generalize (w.alloc (.cells #[.int .i64 k, .string num, .string den, .string text, .bool on, .int .i64 code, .int .i64 rows, .int .i64 cols, .slice A1 n1 c1] 27)).alloc (.cells #[.int .i64 k, .string num, .string den, .string text, .bool on, .int .i64 code, .int .i64 rows, .int .i64 cols, .slice A2 n2 c2] 27) = W1
  intro HL0
  go_cut [5, 6] (fun u5 u6 wx => ∃ p q, u5 = .pointer (some ⟨p, 0, none⟩) ∧ u6 = .pointer (some ⟨q, 0, none⟩) ∧ Hid (Loc w [(p, 27, #[.int .i64 k, .string num, .string den, .string text, .bool on, .int .i64 code, .int .i64 rows, .int .i64 cols, .slice A1 n1 c1]), (q, 27, #[.int .i64 k, .string num, .string den, .string text, .bool on, .int .i64 code, .int .i64 rows, .int .i64 cols, .slice A2 n2 c2]), (w.heap.size + 1, 27, #[.int .i64 k, .string num, .string den, .string text, .bool on, .int .i64 code, .int .i64 rows, .int .i64 cols, .slice A2 n2 c2]), (w.heap.size, 27, #[.int .i64 k, .string num, .string den, .string text, .bool on, .int .i64 code, .int .i64 rows, .int .i64 cols, .slice A1 n1 c1])] wx) ∧ Hid (p ≠ q ∧ w.heap.size + 1 < p ∧ w.heap.size + 1 < q))
  case first =>
    have HS1 := Lib.hid (show ∀ W, Loc w [(w.heap.size + 1, 27, #[.int .i64 k, .string num, .string den, .string text, .bool on, .int .i64 code, .int .i64 rows, .int .i64 cols, .slice A2 n2 c2]), (w.heap.size, 27, #[.int .i64 k, .string num, .string den, .string text, .bool on, .int .i64 code, .int .i64 rows, .int .i64 cols, .slice A1 n1 c1])] W → (W.cell? ⟨w.heap.size, 0, none⟩ = some (.int .i64 k) ∧ W.cell? ⟨w.heap.size, 1, none⟩ = some (.string num) ∧ W.cell? ⟨w.heap.size, 2, none⟩ = some (.string den) ∧ W.cell? ⟨w.heap.size, 3, none⟩ = some (.string text) ∧ W.cell? ⟨w.heap.size, 4, none⟩ = some (.bool on) ∧ W.cell? ⟨w.heap.size, 5, none⟩ = some (.int .i64 code) ∧ W.cell? ⟨w.heap.size, 6, none⟩ = some (.int .i64 rows) ∧ W.cell? ⟨w.heap.size, 7, none⟩ = some (.int .i64 cols) ∧ W.cell? ⟨w.heap.size, 8, none⟩ = some (.slice A1 n1 c1)) ∧ (W.cell? ⟨w.heap.size + 1, 0, none⟩ = some (.int .i64 k) ∧ W.cell? ⟨w.heap.size + 1, 1, none⟩ = some (.string num) ∧ W.cell? ⟨w.heap.size + 1, 2, none⟩ = some (.string den) ∧ W.cell? ⟨w.heap.size + 1, 3, none⟩ = some (.string text) ∧ W.cell? ⟨w.heap.size + 1, 4, none⟩ = some (.bool on) ∧ W.cell? ⟨w.heap.size + 1, 5, none⟩ = some (.int .i64 code) ∧ W.cell? ⟨w.heap.size + 1, 6, none⟩ = some (.int .i64 rows) ∧ W.cell? ⟨w.heap.size + 1, 7, none⟩ = some (.int .i64 cols) ∧ W.cell? ⟨w.heap.size + 1, 8, none⟩ = some (.slice A2 n2 c2)) from fun W h => by
      have a := h.blk (g := w.heap.size) (t := 27) (List.mem_cons_of_mem _ (List.mem_cons_self ..))
      have b := h.blk (g := w.heap.size + 1) (t := 27) (List.mem_cons_self ..)
      exact ⟨⟨a.cell 0, a.cell 1, a.cell 2, a.cell 3, a.cell 4, a.cell 5, a.cell 6, a.cell 7, a.cell 8⟩, b.cell 0, b.cell 1, b.cell 2, b.cell 3, b.cell 4, b.cell 5, b.cell 6, b.cell 7, b.cell 8⟩)
    have l1 := HL0.out.lt (g := w.heap.size + 1) (t := 27) (List.mem_cons_self ..)
    have L1 := Lib.hid HL0.out
    refine wp_region_G (S1 := fun W => (W.cell? ⟨w.heap.size, 0, none⟩ = some (.int .i64 k) ∧ W.cell? ⟨w.heap.size, 1, none⟩ = some (.string num) ∧ W.cell? ⟨w.heap.size, 2, none⟩ = some (.string den) ∧ W.cell? ⟨w.heap.size, 3, none⟩ = some (.string text) ∧ W.cell? ⟨w.heap.size, 4, none⟩ = some (.bool on) ∧ W.cell? ⟨w.heap.size, 5, none⟩ = some (.int .i64 code) ∧ W.cell? ⟨w.heap.size, 6, none⟩ = some (.int .i64 rows) ∧ W.cell? ⟨w.heap.size, 7, none⟩ = some (.int .i64 cols) ∧ W.cell? ⟨w.heap.size, 8, none⟩ = some (.slice A1 n1 c1)) ∧ (W.cell? ⟨w.heap.size + 1, 0, none⟩ = some (.int .i64 k) ∧ W.cell? ⟨w.heap.size + 1, 1, none⟩ = some (.string num) ∧ W.cell? ⟨w.heap.size + 1, 2, none⟩ = some (.string den) ∧ W.cell? ⟨w.heap.size + 1, 3, none⟩ = some (.string text) ∧ W.cell? ⟨w.heap.size + 1, 4, none⟩ = some (.bool on) ∧ W.cell? ⟨w.heap.size + 1, 5, none⟩ = some (.int .i64 code) ∧ W.cell? ⟨w.heap.size + 1, 6, none⟩ = some (.int .i64 rows) ∧ W.cell? ⟨w.heap.size + 1, 7, none⟩ = some (.int .i64 cols) ∧ W.cell? ⟨w.heap.size + 1, 8, none⟩ = some (.slice A2 n2 c2))) (S2 := fun _ => True) (d := 99) (by kernel_rfl) (HS1.out _ HL0.out.drew) trivial (fun hT => ?_)
    refine wpAnyG_take1d (i := 0) (v := ?_) rfl rfl (by kernel_rfl) (by kernel_rfl) (by kernel_rfl) (by kernel_rfl) (fun _ _ _ h => h) (Or.inl ⟨by rfl, ?_⟩) (by assumption) (fun hT => ?_)
    rotate_left
    · intro w hSw
      (try dsimp only at hSw)
      go_simp
      (try with_reducible rfl)
    (try simp only [Act.put, List.setIfInBounds_toArray, List.set_cons_zero, List.set_cons_succ])
    refine wpAnyG_take1d (i := 1) (v := ?_) rfl rfl (by kernel_rfl) (by kernel_rfl) (by kernel_rfl) (by kernel_rfl) (fun _ _ _ h => h) (Or.inl ⟨by rfl, ?_⟩) (by assumption) (fun hT => ?_)
    rotate_left
    · intro w hSw
      (try dsimp only at hSw)
      go_simp
      (try with_reducible rfl)
    (try simp only [Act.put, List.setIfInBounds_toArray, List.set_cons_zero, List.set_cons_succ])
    refine wpAnyG_ready (rs := [2, 3]) (by kernel_rfl) (by simp) ?_
    refine AllG.cons (i := 2) rfl (fun K hK => ?_) (AllG.cons (i := 3) rfl (fun K hK => ?_) AllG.nil)
    · go_simp
      have LA := Lib.hid (HL0.out.drew.alloc' (g := W1.heap.size) rfl 27 #[.int .i64 0, .string ⟨#[]⟩, .string ⟨#[]⟩, .string ⟨#[]⟩, .bool false, .int .i64 0, .int .i64 0, .int .i64 0, .slice none 0 0])
      refine hK.out _ _ ⟨HS1.out _ (LA.out.perm fun x hx => List.mem_cons_of_mem _ hx), .inr trivial⟩ (fun hT => ?_)
      clear hK K
      (try simp only [Act.put, List.setIfInBounds_toArray, List.set_cons_zero, List.set_cons_succ])
      refine wpAnyG_ready (rs := [3]) (by kernel_rfl) (by simp) ?_
      refine AllG.cons (i := 3) rfl (fun K hK => ?_) AllG.nil
      go_simp
      have LB := Lib.hid (LA.out.alloc' (g := W1.heap.size + 1) (by simp) 27 #[.int .i64 0, .string ⟨#[]⟩, .string ⟨#[]⟩, .string ⟨#[]⟩, .bool false, .int .i64 0, .int .i64 0, .int .i64 0, .slice none 0 0])
      refine hK.out _ _ ⟨HS1.out _ (LB.out.perm fun x hx => List.mem_cons_of_mem _ (List.mem_cons_of_mem _ hx)), .inr trivial⟩ (fun hT => ?_)
      clear hK K
      (try simp only [Act.put, List.setIfInBounds_toArray, List.set_cons_zero, List.set_cons_succ])
      clear hT
      have LC : Loc w [(W1.heap.size, 27, #[.int .i64 0, .string ⟨#[]⟩, .string ⟨#[]⟩, .string ⟨#[]⟩, .bool false, .int .i64 0, .int .i64 0, .int .i64 0, .slice none 0 0]), (W1.heap.size + 1, 27, #[.int .i64 0, .string ⟨#[]⟩, .string ⟨#[]⟩, .string ⟨#[]⟩, .bool false, .int .i64 0, .int .i64 0, .int .i64 0, .slice none 0 0]), (w.heap.size + 1, 27, #[.int .i64 k, .string num, .string den, .string text, .bool on, .int .i64 code, .int .i64 rows, .int .i64 cols, .slice A2 n2 c2]), (w.heap.size, 27, #[.int .i64 k, .string num, .string den, .string text, .bool on, .int .i64 code, .int .i64 rows, .int .i64 cols, .slice A1 n1 c1])] ((W1.alloc (.cells #[.int .i64 0, .string ⟨#[]⟩, .string ⟨#[]⟩, .string ⟨#[]⟩, .bool false, .int .i64 0, .int .i64 0, .int .i64 0, .slice none 0 0] 27)).alloc (.cells #[.int .i64 0, .string ⟨#[]⟩, .string ⟨#[]⟩, .string ⟨#[]⟩, .bool false, .int .i64 0, .int .i64 0, .int .i64 0, .slice none 0 0] 27)).drew := LB.out.perm fun x hx => by
        simp only [List.mem_cons, List.not_mem_nil, or_false] at hx ⊢
        rcases hx with h | h | h | h <;> simp [h]
      have LC := Lib.hid LC
      clear LA LB
      revert LC
      generalize ((W1.alloc (.cells #[.int .i64 0, .string ⟨#[]⟩, .string ⟨#[]⟩, .string ⟨#[]⟩, .bool false, .int .i64 0, .int .i64 0, .int .i64 0, .slice none 0 0] 27)).alloc (.cells #[.int .i64 0, .string ⟨#[]⟩, .string ⟨#[]⟩, .string ⟨#[]⟩, .bool false, .int .i64 0, .int .i64 0, .int .i64 0, .slice none 0 0] 27)).drew = W2
      intro LC
      have bp := LC.out.blk (g := W1.heap.size) (t := 27) (List.mem_cons_self ..)
      obtain ⟨z0, z1, z2, z3, z4, z5, z6, z7, z8⟩ := bp.nine
      obtain ⟨f0, f1, f2, f3, f4, f5, f6, f7, f8⟩ := bp.ninef
      obtain ⟨-, d0, d1, d2, d3, d4, d5, d6, d7, d8⟩ := bp.nine_set (.int .i64 k) (.string num) (.string den) (.string text) (.bool on) (.int .i64 code) (.int .i64 rows) (.int .i64 cols) (.slice A1 n1 c1)
      clear bp
      refine wpAnyG_ready (rs := [4]) (by kernel_rfl) (by simp) ?_
      refine AllG.cons (i := 4) rfl (fun K hK => ?_) AllG.nil
      go_simp
      have LD := Lib.hid (LC.out.set9 (fun x hx => by simp only [List.mem_cons, List.not_mem_nil, or_false] at hx; rcases hx with rfl | rfl | rfl <;> (dsimp only; omega)) (.int .i64 k) (.string num) (.string den) (.string text) (.bool on) (.int .i64 code) (.int .i64 rows) (.int .i64 cols) (.slice A1 n1 c1))
      clear z0 z1 z2 z3 z4 z5 z6 z7 z8 f0 f1 f2 f3 f4 f5 f6 f7 f8 d0 d1 d2 d3 d4 d5 d6 d7 d8
      refine hK.out _ _ ⟨HS1.out _ (LD.out.perm (fun x hx => List.mem_cons_of_mem _ (List.mem_cons_of_mem _ hx))), .inr trivial⟩ (fun hT => ?_)
      clear hK K
      (try simp only [Act.put, List.setIfInBounds_toArray, List.set_cons_zero, List.set_cons_succ])
      revert LD
      generalize (((((((((W2.setCell ⟨W1.heap.size, 0, none⟩ (.int .i64 k)).setCell ⟨W1.heap.size, 1, none⟩ (.string num)).setCell ⟨W1.heap.size, 2, none⟩ (.string den)).setCell ⟨W1.heap.size, 3, none⟩ (.string text)).setCell ⟨W1.heap.size, 4, none⟩ (.bool on)).setCell ⟨W1.heap.size, 5, none⟩ (.int .i64 code)).setCell ⟨W1.heap.size, 6, none⟩ (.int .i64 rows)).setCell ⟨W1.heap.size, 7, none⟩ (.int .i64 cols)).setCell ⟨W1.heap.size, 8, none⟩ (.slice A1 n1 c1)) = W3
      intro LD
      have LE : Loc w [(W1.heap.size + 1, 27, #[.int .i64 0, .string ⟨#[]⟩, .string ⟨#[]⟩, .string ⟨#[]⟩, .bool false, .int .i64 0, .int .i64 0, .int .i64 0, .slice none 0 0]), (W1.heap.size, 27, #[.int .i64 k, .string num, .string den, .string text, .bool on, .int .i64 code, .int .i64 rows, .int .i64 cols, .slice A1 n1 c1]), (w.heap.size + 1, 27, #[.int .i64 k, .string num, .string den, .string text, .bool on, .int .i64 code, .int .i64 rows, .int .i64 cols, .slice A2 n2 c2]), (w.heap.size, 27, #[.int .i64 k, .string num, .string den, .string text, .bool on, .int .i64 code, .int .i64 rows, .int .i64 cols, .slice A1 n1 c1])] W3 := LD.out.perm fun x hx => by
        simp only [List.mem_cons, List.not_mem_nil, or_false] at hx ⊢
        rcases hx with h | h | h | h <;> simp [h]
      have LE := Lib.hid LE
      clear LD LC
      have bp := LE.out.blk (g := W1.heap.size + 1) (t := 27) (List.mem_cons_self ..)
      obtain ⟨z0, z1, z2, z3, z4, z5, z6, z7, z8⟩ := bp.nine
      obtain ⟨f0, f1, f2, f3, f4, f5, f6, f7, f8⟩ := bp.ninef
      obtain ⟨-, d0, d1, d2, d3, d4, d5, d6, d7, d8⟩ := bp.nine_set (.int .i64 k) (.string num) (.string den) (.string text) (.bool on) (.int .i64 code) (.int .i64 rows) (.int .i64 cols) (.slice A2 n2 c2)
      clear bp
      refine wpAnyG_ready (rs := [5]) (by kernel_rfl) (by simp) ?_
      refine AllG.cons (i := 5) rfl (fun K hK => ?_) AllG.nil
      go_simp
      have LF := Lib.hid (LE.out.set9 (fun x hx => by simp only [List.mem_cons, List.not_mem_nil, or_false] at hx; rcases hx with rfl | rfl | rfl <;> (dsimp only; omega)) (.int .i64 k) (.string num) (.string den) (.string text) (.bool on) (.int .i64 code) (.int .i64 rows) (.int .i64 cols) (.slice A2 n2 c2))
      clear z0 z1 z2 z3 z4 z5 z6 z7 z8 f0 f1 f2 f3 f4 f5 f6 f7 f8 d0 d1 d2 d3 d4 d5 d6 d7 d8
      refine hK.out _ _ ⟨HS1.out _ (LF.out.perm (fun x hx => List.mem_cons_of_mem _ (List.mem_cons_of_mem _ hx))), .inr trivial⟩ (fun hT => ?_)
      clear hK K
      (try simp only [Act.put, List.setIfInBounds_toArray, List.set_cons_zero, List.set_cons_succ])
      revert LF
      generalize (((((((((W3.setCell ⟨W1.heap.size + 1, 0, none⟩ (.int .i64 k)).setCell ⟨W1.heap.size + 1, 1, none⟩ (.string num)).setCell ⟨W1.heap.size + 1, 2, none⟩ (.string den)).setCell ⟨W1.heap.size + 1, 3, none⟩ (.string text)).setCell ⟨W1.heap.size + 1, 4, none⟩ (.bool on)).setCell ⟨W1.heap.size + 1, 5, none⟩ (.int .i64 code)).setCell ⟨W1.heap.size + 1, 6, none⟩ (.int .i64 rows)).setCell ⟨W1.heap.size + 1, 7, none⟩ (.int .i64 cols)).setCell ⟨W1.heap.size + 1, 8, none⟩ (.slice A2 n2 c2)) = W4
      intro LF
      refine wpAnyG_done (by kernel_rfl) ?_ _
      go_wp2_with fail
      go_meet
      have LG : Loc w [(W1.heap.size, 27, #[.int .i64 k, .string num, .string den, .string text, .bool on, .int .i64 code, .int .i64 rows, .int .i64 cols, .slice A1 n1 c1]), (W1.heap.size + 1, 27, #[.int .i64 k, .string num, .string den, .string text, .bool on, .int .i64 code, .int .i64 rows, .int .i64 cols, .slice A2 n2 c2]), (w.heap.size + 1, 27, #[.int .i64 k, .string num, .string den, .string text, .bool on, .int .i64 code, .int .i64 rows, .int .i64 cols, .slice A2 n2 c2]), (w.heap.size, 27, #[.int .i64 k, .string num, .string den, .string text, .bool on, .int .i64 code, .int .i64 rows, .int .i64 cols, .slice A1 n1 c1])] W4 := LF.out.perm fun x hx => by
        simp only [List.mem_cons, List.not_mem_nil, or_false] at hx ⊢
        rcases hx with h | h | h | h <;> simp [h]
      exact ⟨_, _, rfl, rfl, Lib.hid LG, Lib.hid (by refine ⟨?_, ?_, ?_⟩ <;> omega)⟩
    · go_simp
      have LA := Lib.hid (HL0.out.drew.alloc' (g := W1.heap.size) rfl 27 #[.int .i64 0, .string ⟨#[]⟩, .string ⟨#[]⟩, .string ⟨#[]⟩, .bool false, .int .i64 0, .int .i64 0, .int .i64 0, .slice none 0 0])
      refine hK.out _ _ ⟨HS1.out _ (LA.out.perm fun x hx => List.mem_cons_of_mem _ hx), .inr trivial⟩ (fun hT => ?_)
      clear hK K
      (try simp only [Act.put, List.setIfInBounds_toArray, List.set_cons_zero, List.set_cons_succ])
      refine wpAnyG_ready (rs := [2]) (by kernel_rfl) (by simp) ?_
      refine AllG.cons (i := 2) rfl (fun K hK => ?_) AllG.nil
      go_simp
      have LB := Lib.hid (LA.out.alloc' (g := W1.heap.size + 1) (by simp) 27 #[.int .i64 0, .string ⟨#[]⟩, .string ⟨#[]⟩, .string ⟨#[]⟩, .bool false, .int .i64 0, .int .i64 0, .int .i64 0, .slice none 0 0])
      refine hK.out _ _ ⟨HS1.out _ (LB.out.perm fun x hx => List.mem_cons_of_mem _ (List.mem_cons_of_mem _ hx)), .inr trivial⟩ (fun hT => ?_)
      clear hK K
      (try simp only [Act.put, List.setIfInBounds_toArray, List.set_cons_zero, List.set_cons_succ])
      clear hT
      have LC : Loc w [(W1.heap.size + 1, 27, #[.int .i64 0, .string ⟨#[]⟩, .string ⟨#[]⟩, .string ⟨#[]⟩, .bool false, .int .i64 0, .int .i64 0, .int .i64 0, .slice none 0 0]), (W1.heap.size, 27, #[.int .i64 0, .string ⟨#[]⟩, .string ⟨#[]⟩, .string ⟨#[]⟩, .bool false, .int .i64 0, .int .i64 0, .int .i64 0, .slice none 0 0]), (w.heap.size + 1, 27, #[.int .i64 k, .string num, .string den, .string text, .bool on, .int .i64 code, .int .i64 rows, .int .i64 cols, .slice A2 n2 c2]), (w.heap.size, 27, #[.int .i64 k, .string num, .string den, .string text, .bool on, .int .i64 code, .int .i64 rows, .int .i64 cols, .slice A1 n1 c1])] ((W1.alloc (.cells #[.int .i64 0, .string ⟨#[]⟩, .string ⟨#[]⟩, .string ⟨#[]⟩, .bool false, .int .i64 0, .int .i64 0, .int .i64 0, .slice none 0 0] 27)).alloc (.cells #[.int .i64 0, .string ⟨#[]⟩, .string ⟨#[]⟩, .string ⟨#[]⟩, .bool false, .int .i64 0, .int .i64 0, .int .i64 0, .slice none 0 0] 27)).drew := LB.out.perm fun x hx => by
        simp only [List.mem_cons, List.not_mem_nil, or_false] at hx ⊢
        rcases hx with h | h | h | h <;> simp [h]
      have LC := Lib.hid LC
      clear LA LB
      revert LC
      generalize ((W1.alloc (.cells #[.int .i64 0, .string ⟨#[]⟩, .string ⟨#[]⟩, .string ⟨#[]⟩, .bool false, .int .i64 0, .int .i64 0, .int .i64 0, .slice none 0 0] 27)).alloc (.cells #[.int .i64 0, .string ⟨#[]⟩, .string ⟨#[]⟩, .string ⟨#[]⟩, .bool false, .int .i64 0, .int .i64 0, .int .i64 0, .slice none 0 0] 27)).drew = W2
      intro LC
      have bp := LC.out.blk (g := W1.heap.size + 1) (t := 27) (List.mem_cons_self ..)
      obtain ⟨z0, z1, z2, z3, z4, z5, z6, z7, z8⟩ := bp.nine
      obtain ⟨f0, f1, f2, f3, f4, f5, f6, f7, f8⟩ := bp.ninef
      obtain ⟨-, d0, d1, d2, d3, d4, d5, d6, d7, d8⟩ := bp.nine_set (.int .i64 k) (.string num) (.string den) (.string text) (.bool on) (.int .i64 code) (.int .i64 rows) (.int .i64 cols) (.slice A1 n1 c1)
      clear bp
      refine wpAnyG_ready (rs := [4]) (by kernel_rfl) (by simp) ?_
      refine AllG.cons (i := 4) rfl (fun K hK => ?_) AllG.nil
      go_simp
      have LD := Lib.hid (LC.out.set9 (fun x hx => by simp only [List.mem_cons, List.not_mem_nil, or_false] at hx; rcases hx with rfl | rfl | rfl <;> (dsimp only; omega)) (.int .i64 k) (.string num) (.string den) (.string text) (.bool on) (.int .i64 code) (.int .i64 rows) (.int .i64 cols) (.slice A1 n1 c1))
      clear z0 z1 z2 z3 z4 z5 z6 z7 z8 f0 f1 f2 f3 f4 f5 f6 f7 f8 d0 d1 d2 d3 d4 d5 d6 d7 d8
      refine hK.out _ _ ⟨HS1.out _ (LD.out.perm (fun x hx => List.mem_cons_of_mem _ (List.mem_cons_of_mem _ hx))), .inr trivial⟩ (fun hT => ?_)
      clear hK K
      (try simp only [Act.put, List.setIfInBounds_toArray, List.set_cons_zero, List.set_cons_succ])
      revert LD
      generalize (((((((((W2.setCell ⟨W1.heap.size + 1, 0, none⟩ (.int .i64 k)).setCell ⟨W1.heap.size + 1, 1, none⟩ (.string num)).setCell ⟨W1.heap.size + 1, 2, none⟩ (.string den)).setCell ⟨W1.heap.size + 1, 3, none⟩ (.string text)).setCell ⟨W1.heap.size + 1, 4, none⟩ (.bool on)).setCell ⟨W1.heap.size + 1, 5, none⟩ (.int .i64 code)).setCell ⟨W1.heap.size + 1, 6, none⟩ (.int .i64 rows)).setCell ⟨W1.heap.size + 1, 7, none⟩ (.int .i64 cols)).setCell ⟨W1.heap.size + 1, 8, none⟩ (.slice A1 n1 c1)) = W3
      intro LD
      have LE : Loc w [(W1.heap.size, 27, #[.int .i64 0, .string ⟨#[]⟩, .string ⟨#[]⟩, .string ⟨#[]⟩, .bool false, .int .i64 0, .int .i64 0, .int .i64 0, .slice none 0 0]), (W1.heap.size + 1, 27, #[.int .i64 k, .string num, .string den, .string text, .bool on, .int .i64 code, .int .i64 rows, .int .i64 cols, .slice A1 n1 c1]), (w.heap.size + 1, 27, #[.int .i64 k, .string num, .string den, .string text, .bool on, .int .i64 code, .int .i64 rows, .int .i64 cols, .slice A2 n2 c2]), (w.heap.size, 27, #[.int .i64 k, .string num, .string den, .string text, .bool on, .int .i64 code, .int .i64 rows, .int .i64 cols, .slice A1 n1 c1])] W3 := LD.out.perm fun x hx => by
        simp only [List.mem_cons, List.not_mem_nil, or_false] at hx ⊢
        rcases hx with h | h | h | h <;> simp [h]
      have LE := Lib.hid LE
      clear LD LC
      have bp := LE.out.blk (g := W1.heap.size) (t := 27) (List.mem_cons_self ..)
      obtain ⟨z0, z1, z2, z3, z4, z5, z6, z7, z8⟩ := bp.nine
      obtain ⟨f0, f1, f2, f3, f4, f5, f6, f7, f8⟩ := bp.ninef
      obtain ⟨-, d0, d1, d2, d3, d4, d5, d6, d7, d8⟩ := bp.nine_set (.int .i64 k) (.string num) (.string den) (.string text) (.bool on) (.int .i64 code) (.int .i64 rows) (.int .i64 cols) (.slice A2 n2 c2)
      clear bp
      refine wpAnyG_ready (rs := [5]) (by kernel_rfl) (by simp) ?_
      refine AllG.cons (i := 5) rfl (fun K hK => ?_) AllG.nil
      go_simp
      have LF := Lib.hid (LE.out.set9 (fun x hx => by simp only [List.mem_cons, List.not_mem_nil, or_false] at hx; rcases hx with rfl | rfl | rfl <;> (dsimp only; omega)) (.int .i64 k) (.string num) (.string den) (.string text) (.bool on) (.int .i64 code) (.int .i64 rows) (.int .i64 cols) (.slice A2 n2 c2))
      clear z0 z1 z2 z3 z4 z5 z6 z7 z8 f0 f1 f2 f3 f4 f5 f6 f7 f8 d0 d1 d2 d3 d4 d5 d6 d7 d8
      refine hK.out _ _ ⟨HS1.out _ (LF.out.perm (fun x hx => List.mem_cons_of_mem _ (List.mem_cons_of_mem _ hx))), .inr trivial⟩ (fun hT => ?_)
      clear hK K
      (try simp only [Act.put, List.setIfInBounds_toArray, List.set_cons_zero, List.set_cons_succ])
      revert LF
      generalize (((((((((W3.setCell ⟨W1.heap.size, 0, none⟩ (.int .i64 k)).setCell ⟨W1.heap.size, 1, none⟩ (.string num)).setCell ⟨W1.heap.size, 2, none⟩ (.string den)).setCell ⟨W1.heap.size, 3, none⟩ (.string text)).setCell ⟨W1.heap.size, 4, none⟩ (.bool on)).setCell ⟨W1.heap.size, 5, none⟩ (.int .i64 code)).setCell ⟨W1.heap.size, 6, none⟩ (.int .i64 rows)).setCell ⟨W1.heap.size, 7, none⟩ (.int .i64 cols)).setCell ⟨W1.heap.size, 8, none⟩ (.slice A2 n2 c2)) = W4
      intro LF
      refine wpAnyG_done (by kernel_rfl) ?_ _
      go_wp2_with fail
      go_meet
      have LG : Loc w [(W1.heap.size + 1, 27, #[.int .i64 k, .string num, .string den, .string text, .bool on, .int .i64 code, .int .i64 rows, .int .i64 cols, .slice A1 n1 c1]), (W1.heap.size, 27, #[.int .i64 k, .string num, .string den, .string text, .bool on, .int .i64 code, .int .i64 rows, .int .i64 cols, .slice A2 n2 c2]), (w.heap.size + 1, 27, #[.int .i64 k, .string num, .string den, .string text, .bool on, .int .i64 code, .int .i64 rows, .int .i64 cols, .slice A2 n2 c2]), (w.heap.size, 27, #[.int .i64 k, .string num, .string den, .string text, .bool on, .int .i64 code, .int .i64 rows, .int .i64 cols, .slice A1 n1 c1])] W4 := LF.out.perm fun x hx => by
        simp only [List.mem_cons, List.not_mem_nil, or_false] at hx ⊢
        rcases hx with h | h | h | h <;> simp [h]
      exact ⟨_, _, rfl, rfl, Lib.hid LG, Lib.hid (by refine ⟨?_, ?_, ?_⟩ <;> omega)⟩
  case rest =>
    clear HL0
    obtain ⟨p, q, rfl, rfl, HL, HPQ⟩ := hcut
    have hne : ∀ x ∈ ([(q, 27, #[.int .i64 k, .string num, .string den, .string text, .bool on, .int .i64 code, .int .i64 rows, .int .i64 cols, .slice A2 n2 c2]), (w.heap.size + 1, 27, #[.int .i64 k, .string num, .string den, .string text, .bool on, .int .i64 code, .int .i64 rows, .int .i64 cols, .slice A2 n2 c2]), (w.heap.size, 27, #[.int .i64 k, .string num, .string den, .string text, .bool on, .int .i64 code, .int .i64 rows, .int .i64 cols, .slice A1 n1 c1])] : List (Nat × TypeId × Array Value)), x.1 ≠ p := fun x hx => by
      have h := HPQ.out
      simp only [List.mem_cons, List.not_mem_nil, or_false] at hx
      rcases hx with rfl | rfl | rfl <;> (dsimp only; omega)
    have HNE := Lib.hid hne
    clear hne
    have hp := HL.out.blk (g := p) (t := 27) (List.mem_cons_self ..)
    have hq := HL.out.blk (g := q) (t := 27) (List.mem_cons_of_mem _ (List.mem_cons_self ..))
    rename World => wx
    have p8 : wx.cell? ⟨p, 8, none⟩ = some (.slice A1 n1 c1) := hp.cell 8
    have fp8 := hp.frozen 8
    have q8 : wx.cell? ⟨q, 8, none⟩ = some (.slice A2 n2 c2) := hq.cell 8
    have fq8 := hq.frozen 8
    clear hp hq
    have hpq := HPQ.out.1
    have hqp := Ne.symm hpq
    go_upto_region 3 with fail
    have h1 : Loc w [(p, 27, #[.int .i64 k, .string num, .string den, .string text, .bool on, .int .i64 code, .int .i64 rows, .int .i64 cols, .slice none 0 0]), (q, 27, #[.int .i64 k, .string num, .string den, .string text, .bool on, .int .i64 code, .int .i64 rows, .int .i64 cols, .slice A2 n2 c2]), (w.heap.size + 1, 27, #[.int .i64 k, .string num, .string den, .string text, .bool on, .int .i64 code, .int .i64 rows, .int .i64 cols, .slice A2 n2 c2]), (w.heap.size, 27, #[.int .i64 k, .string num, .string den, .string text, .bool on, .int .i64 code, .int .i64 rows, .int .i64 cols, .slice A1 n1 c1])] (wx.setCell ⟨p, 8, none⟩ (.slice none 0 0)) := HL.out.set1 (i := 8) HNE.out _
    have h2 : Loc w [(q, 27, #[.int .i64 k, .string num, .string den, .string text, .bool on, .int .i64 code, .int .i64 rows, .int .i64 cols, .slice A2 n2 c2]), (p, 27, #[.int .i64 k, .string num, .string den, .string text, .bool on, .int .i64 code, .int .i64 rows, .int .i64 cols, .slice none 0 0]), (w.heap.size + 1, 27, #[.int .i64 k, .string num, .string den, .string text, .bool on, .int .i64 code, .int .i64 rows, .int .i64 cols, .slice A2 n2 c2]), (w.heap.size, 27, #[.int .i64 k, .string num, .string den, .string text, .bool on, .int .i64 code, .int .i64 rows, .int .i64 cols, .slice A1 n1 c1])] (wx.setCell ⟨p, 8, none⟩ (.slice none 0 0)) := h1.perm fun x hx => by
      simp only [List.mem_cons, List.not_mem_nil, or_false] at hx ⊢
      rcases hx with h | h | h | h <;> simp [h]
    have h3 : Loc w [(q, 27, #[.int .i64 k, .string num, .string den, .string text, .bool on, .int .i64 code, .int .i64 rows, .int .i64 cols, .slice none 0 0]), (p, 27, #[.int .i64 k, .string num, .string den, .string text, .bool on, .int .i64 code, .int .i64 rows, .int .i64 cols, .slice none 0 0]), (w.heap.size + 1, 27, #[.int .i64 k, .string num, .string den, .string text, .bool on, .int .i64 code, .int .i64 rows, .int .i64 cols, .slice A2 n2 c2]), (w.heap.size, 27, #[.int .i64 k, .string num, .string den, .string text, .bool on, .int .i64 code, .int .i64 rows, .int .i64 cols, .slice A1 n1 c1])] ((wx.setCell ⟨p, 8, none⟩ (.slice none 0 0)).setCell ⟨q, 8, none⟩ (.slice none 0 0)) := h2.set1 (i := 8) (fun x hx => by
      have h := HPQ.out
      simp only [List.mem_cons, List.not_mem_nil, or_false] at hx
      rcases hx with rfl | rfl | rfl <;> (dsimp only; omega)) _
    have HL3 := Lib.hid h3
    clear h1 h2 h3 p8 fp8 q8 fq8 HL HNE
    revert HL3
    generalize (wx.setCell ⟨p, 8, none⟩ (.slice none 0 0)).setCell ⟨q, 8, none⟩ (.slice none 0 0) = W5
    intro HL3
    have bq := HL3.out.blk (g := q) (t := 27) (List.mem_cons_self ..)
    have bp := HL3.out.blk (g := p) (t := 27) (List.mem_cons_of_mem _ (List.mem_cons_self ..))
    obtain ⟨q0, q1, q2, q3, q4, q5, q6, q7, -⟩ := bq.nine
    obtain ⟨p0, p1, p2, p3, p4, p5, p6, p7, -⟩ := bp.nine
    have a8 : W5.cell? ⟨w.heap.size, 8, none⟩ = some (.slice A1 n1 c1) := (HL3.out.blk (g := w.heap.size) (t := 27) (List.mem_cons_of_mem _ (List.mem_cons_of_mem _ (List.mem_cons_of_mem _ (List.mem_cons_self ..))))).cell 8
    have b8 : W5.cell? ⟨w.heap.size + 1, 8, none⟩ = some (.slice A2 n2 c2) := (HL3.out.blk (g := w.heap.size + 1) (t := 27) (List.mem_cons_of_mem _ (List.mem_cons_of_mem _ (List.mem_cons_self ..)))).cell 8
    clear bp bq hpq hqp
    go_wp2_with (go_at_call 32; (with_reducible refine (HH.out _ HL3.out.bel).mono ?_); rintro e w9 ⟨rfl, hb⟩; have HL9 := Lib.hid (HL3.out.step hb); clear hb)
    go_ret
    exact ⟨rfl, HL9.out.bel⟩
end Go.Proofs.YtmapagbmihpbmaaGreatDoor

namespace Go.Proofs.YtmapagbmihpbmaaGreatDoor
open Go.RowKit

theorem same_v (u : Vl) (hu : u.n = 0) (w : World) : Calls Tryz.prog 14 #[.agg (vA u), .agg (vA u)] w fun e w' => e = .returned (.bool true) ∧ Below w.heap.size w w' := by
  obtain ⟨uk, unum, uden, utext, uon, ucode, urows, ucols, uA, un, uc⟩ := u
  dsimp only at hu
  subst hu
  exact same_h uk unum uden utext uon ucode urows ucols uA uA 0 uc 0 uc w fun W _ => (eqfunc_0 uA uA uc uc W).mono fun e w' h => ⟨h.1, by rw [← h.2]; exact Below.refl _ _⟩
set_option maxRecDepth 100000 in
set_option maxHeartbeats 8000000 in
theorem eqf_any (A1 A2 : Option Addr) (n c1 c2 : Nat) (l : List Vl) (w : World) (h1 : Reads 9 csV w (.slice A1 n c1) l) (h2 : Reads 9 csV w (.slice A2 n c2) l) (hs : ∀ u ∈ l, u.n = 0) (hn : n ≤ 100000) :
    Calls Tryz.prog 32 #[.slice A1 n c1, .slice A2 n c2, .func (.func 14) #[] #[]] w fun e w' => e = .returned (.bool true) ∧ Below w.heap.size w w' := by
  have hl : l.length = n := by
    obtain ⟨A', c', e, -⟩ := h1
    injection e with e1 e2 e3
    exact e2.symm
  have HC := Lib.hid (show ∀ i, i < n → ∃ (b o b2 o2 : Nat) (u : Vl), A1 = some ⟨b, o, none⟩ ∧ A2 = some ⟨b2, o2, none⟩ ∧ u.n = 0 ∧ ∀ W, Below w.heap.size w W → ∀ q, q < 9 → W.cell? ⟨b, o + i * 9 + q, none⟩ = (csV u)[q]? ∧ W.cell? ⟨b2, o2 + i * 9 + q, none⟩ = (csV u)[q]? from fun i hi => by
    obtain ⟨A', c', e, -, -, h3⟩ := h1
    injection e with e1 e2 e3
    obtain ⟨b, o, e4, hb, hc⟩ := h3 (by omega)
    obtain ⟨A'', c'', e', -, -, h3'⟩ := h2
    injection e' with e1' e2' e3'
    obtain ⟨b', o', e4', hb', hc'⟩ := h3' (by omega)
    have hi' : i < l.length := by omega
    refine ⟨b, o, b', o', l[i], e1.trans e4, e1'.trans e4', hs _ (List.getElem_mem _), fun W hW q hq => ⟨?_, ?_⟩⟩
    · have := hc i hi' q hq
      rw [← Nat.add_assoc] at this
      exact (hW.cell (by exact hb)).trans this
    · have := hc' i hi' q hq
      rw [← Nat.add_assoc] at this
      exact (hW.cell (by exact hb')).trans this)
  clear h1 h2 hs hl
  have HB := Lib.hid (Below.refl w.heap.size w)
  go_enter Tryz.func32, Tryz.ntmps32
  go_wp2_with fail
  go_loopw [17] (fun u17 wr => ∃ i : Nat, i ≤ n ∧ u17 = .int .i64 i ∧ Hid (Below w.heap.size w wr)) (fun u _ => n - (intOf u).toNat)
  case atStart => exact ⟨0, by omega, rfl, HB⟩
  case round =>
    clear HB
    obtain ⟨i, hi, rfl, HB⟩ := hrel
    by_cases hlt : i < n
    · have hlz : (i : Int) < (n : Int) := by omega
      obtain ⟨b, o, b2, o2, u, rfl, rfl, hu, hcl⟩ := HC.out i hlt
      obtain ⟨uk, unum, uden, utext, uon, ucode, urows, ucols, uA, un, uc⟩ := u
      dsimp only at hu
      subst hu
      have k0 : wr.cell? ⟨b, o + i * 9, none⟩ = some (.int .i64 uk) := (hcl wr HB.out 0 (by decide)).1
      have k1 : wr.cell? ⟨b, o + i * 9 + 1, none⟩ = some (.string unum) := (hcl wr HB.out 1 (by decide)).1
      have k2 : wr.cell? ⟨b, o + i * 9 + 2, none⟩ = some (.string uden) := (hcl wr HB.out 2 (by decide)).1
      have k3 : wr.cell? ⟨b, o + i * 9 + 3, none⟩ = some (.string utext) := (hcl wr HB.out 3 (by decide)).1
      have k4 : wr.cell? ⟨b, o + i * 9 + 4, none⟩ = some (.bool uon) := (hcl wr HB.out 4 (by decide)).1
      have k5 : wr.cell? ⟨b, o + i * 9 + 5, none⟩ = some (.int .i64 ucode) := (hcl wr HB.out 5 (by decide)).1
      have k6 : wr.cell? ⟨b, o + i * 9 + 6, none⟩ = some (.int .i64 urows) := (hcl wr HB.out 6 (by decide)).1
      have k7 : wr.cell? ⟨b, o + i * 9 + 7, none⟩ = some (.int .i64 ucols) := (hcl wr HB.out 7 (by decide)).1
      have k8 : wr.cell? ⟨b, o + i * 9 + 8, none⟩ = some (.slice uA 0 uc) := (hcl wr HB.out 8 (by decide)).1
      have j0 : wr.cell? ⟨b2, o2 + i * 9, none⟩ = some (.int .i64 uk) := (hcl wr HB.out 0 (by decide)).2
      have j1 : wr.cell? ⟨b2, o2 + i * 9 + 1, none⟩ = some (.string unum) := (hcl wr HB.out 1 (by decide)).2
      have j2 : wr.cell? ⟨b2, o2 + i * 9 + 2, none⟩ = some (.string uden) := (hcl wr HB.out 2 (by decide)).2
      have j3 : wr.cell? ⟨b2, o2 + i * 9 + 3, none⟩ = some (.string utext) := (hcl wr HB.out 3 (by decide)).2
      have j4 : wr.cell? ⟨b2, o2 + i * 9 + 4, none⟩ = some (.bool uon) := (hcl wr HB.out 4 (by decide)).2
      have j5 : wr.cell? ⟨b2, o2 + i * 9 + 5, none⟩ = some (.int .i64 ucode) := (hcl wr HB.out 5 (by decide)).2
      have j6 : wr.cell? ⟨b2, o2 + i * 9 + 6, none⟩ = some (.int .i64 urows) := (hcl wr HB.out 6 (by decide)).2
      have j7 : wr.cell? ⟨b2, o2 + i * 9 + 7, none⟩ = some (.int .i64 ucols) := (hcl wr HB.out 7 (by decide)).2
      have j8 : wr.cell? ⟨b2, o2 + i * 9 + 8, none⟩ = some (.slice uA 0 uc) := (hcl wr HB.out 8 (by decide)).2
      have m0 : (wr.alloc (.cells #[.int .i64 uk, .string unum, .string uden, .string utext, .bool uon, .int .i64 ucode, .int .i64 urows, .int .i64 ucols, .slice uA 0 uc] 27)).cell? ⟨b2, o2 + i * 9, none⟩ = some (.int .i64 uk) := (hcl _ (HB.out.alloc HB.out.size _) 0 (by decide)).2
      have m1 : (wr.alloc (.cells #[.int .i64 uk, .string unum, .string uden, .string utext, .bool uon, .int .i64 ucode, .int .i64 urows, .int .i64 ucols, .slice uA 0 uc] 27)).cell? ⟨b2, o2 + i * 9 + 1, none⟩ = some (.string unum) := (hcl _ (HB.out.alloc HB.out.size _) 1 (by decide)).2
      have m2 : (wr.alloc (.cells #[.int .i64 uk, .string unum, .string uden, .string utext, .bool uon, .int .i64 ucode, .int .i64 urows, .int .i64 ucols, .slice uA 0 uc] 27)).cell? ⟨b2, o2 + i * 9 + 2, none⟩ = some (.string uden) := (hcl _ (HB.out.alloc HB.out.size _) 2 (by decide)).2
      have m3 : (wr.alloc (.cells #[.int .i64 uk, .string unum, .string uden, .string utext, .bool uon, .int .i64 ucode, .int .i64 urows, .int .i64 ucols, .slice uA 0 uc] 27)).cell? ⟨b2, o2 + i * 9 + 3, none⟩ = some (.string utext) := (hcl _ (HB.out.alloc HB.out.size _) 3 (by decide)).2
      have m4 : (wr.alloc (.cells #[.int .i64 uk, .string unum, .string uden, .string utext, .bool uon, .int .i64 ucode, .int .i64 urows, .int .i64 ucols, .slice uA 0 uc] 27)).cell? ⟨b2, o2 + i * 9 + 4, none⟩ = some (.bool uon) := (hcl _ (HB.out.alloc HB.out.size _) 4 (by decide)).2
      have m5 : (wr.alloc (.cells #[.int .i64 uk, .string unum, .string uden, .string utext, .bool uon, .int .i64 ucode, .int .i64 urows, .int .i64 ucols, .slice uA 0 uc] 27)).cell? ⟨b2, o2 + i * 9 + 5, none⟩ = some (.int .i64 ucode) := (hcl _ (HB.out.alloc HB.out.size _) 5 (by decide)).2
      have m6 : (wr.alloc (.cells #[.int .i64 uk, .string unum, .string uden, .string utext, .bool uon, .int .i64 ucode, .int .i64 urows, .int .i64 ucols, .slice uA 0 uc] 27)).cell? ⟨b2, o2 + i * 9 + 6, none⟩ = some (.int .i64 urows) := (hcl _ (HB.out.alloc HB.out.size _) 6 (by decide)).2
      have m7 : (wr.alloc (.cells #[.int .i64 uk, .string unum, .string uden, .string utext, .bool uon, .int .i64 ucode, .int .i64 urows, .int .i64 ucols, .slice uA 0 uc] 27)).cell? ⟨b2, o2 + i * 9 + 7, none⟩ = some (.int .i64 ucols) := (hcl _ (HB.out.alloc HB.out.size _) 7 (by decide)).2
      have m8 : (wr.alloc (.cells #[.int .i64 uk, .string unum, .string uden, .string utext, .bool uon, .int .i64 ucode, .int .i64 urows, .int .i64 ucols, .slice uA 0 uc] 27)).cell? ⟨b2, o2 + i * 9 + 8, none⟩ = some (.slice uA 0 uc) := (hcl _ (HB.out.alloc HB.out.size _) 8 (by decide)).2
      clear hcl
      go_upto_region 7 with fail
      clear k0 j0 m0 k1 j1 m1 k2 j2 m2 k3 j3 m3 k4 j4 m4 k5 j5 m5 k6 j6 m6 k7 j7 m7 k8 j8 m8
      have HX := Lib.hid ((Blk.new wr 27 #[.int .i64 uk, .string unum, .string uden, .string utext, .bool uon, .int .i64 ucode, .int .i64 urows, .int .i64 ucols, .slice uA 0 uc]).alloc (.cells #[.int .i64 uk, .string unum, .string uden, .string utext, .bool uon, .int .i64 ucode, .int .i64 urows, .int .i64 ucols, .slice uA 0 uc] 27))
      have HY := Lib.hid (show Blk ((wr.alloc (.cells #[.int .i64 uk, .string unum, .string uden, .string utext, .bool uon, .int .i64 ucode, .int .i64 urows, .int .i64 ucols, .slice uA 0 uc] 27)).alloc (.cells #[.int .i64 uk, .string unum, .string uden, .string utext, .bool uon, .int .i64 ucode, .int .i64 urows, .int .i64 ucols, .slice uA 0 uc] 27)) (wr.heap.size + 1) 27 #[.int .i64 uk, .string unum, .string uden, .string utext, .bool uon, .int .i64 ucode, .int .i64 urows, .int .i64 ucols, .slice uA 0 uc] from by
        have := Blk.new (wr.alloc (.cells #[.int .i64 uk, .string unum, .string uden, .string utext, .bool uon, .int .i64 ucode, .int .i64 urows, .int .i64 ucols, .slice uA 0 uc] 27)) 27 #[.int .i64 uk, .string unum, .string uden, .string utext, .bool uon, .int .i64 ucode, .int .i64 urows, .int .i64 ucols, .slice uA 0 uc]
        simpa using this)
      have HB2 := Lib.hid ((HB.out.alloc HB.out.size (.cells #[.int .i64 uk, .string unum, .string uden, .string utext, .bool uon, .int .i64 ucode, .int .i64 urows, .int .i64 ucols, .slice uA 0 uc] 27)).alloc (HB.out.alloc HB.out.size (.cells #[.int .i64 uk, .string unum, .string uden, .string utext, .bool uon, .int .i64 ucode, .int .i64 urows, .int .i64 ucols, .slice uA 0 uc] 27)).size (.cells #[.int .i64 uk, .string unum, .string uden, .string utext, .bool uon, .int .i64 ucode, .int .i64 urows, .int .i64 ucols, .slice uA 0 uc] 27))
      revert HX HY HB2
      generalize (wr.alloc (.cells #[.int .i64 uk, .string unum, .string uden, .string utext, .bool uon, .int .i64 ucode, .int .i64 urows, .int .i64 ucols, .slice uA 0 uc] 27)).alloc (.cells #[.int .i64 uk, .string unum, .string uden, .string utext, .bool uon, .int .i64 ucode, .int .i64 urows, .int .i64 ucols, .slice uA 0 uc] 27) = W2
      intro HX HY HB2
      have x0 : W2.cell? ⟨wr.heap.size, 0, none⟩ = some (.int .i64 uk) := HX.out.cell 0
      have x1 : W2.cell? ⟨wr.heap.size, 1, none⟩ = some (.string unum) := HX.out.cell 1
      have x2 : W2.cell? ⟨wr.heap.size, 2, none⟩ = some (.string uden) := HX.out.cell 2
      have x3 : W2.cell? ⟨wr.heap.size, 3, none⟩ = some (.string utext) := HX.out.cell 3
      have x4 : W2.cell? ⟨wr.heap.size, 4, none⟩ = some (.bool uon) := HX.out.cell 4
      have x5 : W2.cell? ⟨wr.heap.size, 5, none⟩ = some (.int .i64 ucode) := HX.out.cell 5
      have x6 : W2.cell? ⟨wr.heap.size, 6, none⟩ = some (.int .i64 urows) := HX.out.cell 6
      have x7 : W2.cell? ⟨wr.heap.size, 7, none⟩ = some (.int .i64 ucols) := HX.out.cell 7
      have x8 : W2.cell? ⟨wr.heap.size, 8, none⟩ = some (.slice uA 0 uc) := HX.out.cell 8
      have y0 : W2.cell? ⟨wr.heap.size + 1, 0, none⟩ = some (.int .i64 uk) := HY.out.cell 0
      have y1 : W2.cell? ⟨wr.heap.size + 1, 1, none⟩ = some (.string unum) := HY.out.cell 1
      have y2 : W2.cell? ⟨wr.heap.size + 1, 2, none⟩ = some (.string uden) := HY.out.cell 2
      have y3 : W2.cell? ⟨wr.heap.size + 1, 3, none⟩ = some (.string utext) := HY.out.cell 3
      have y4 : W2.cell? ⟨wr.heap.size + 1, 4, none⟩ = some (.bool uon) := HY.out.cell 4
      have y5 : W2.cell? ⟨wr.heap.size + 1, 5, none⟩ = some (.int .i64 ucode) := HY.out.cell 5
      have y6 : W2.cell? ⟨wr.heap.size + 1, 6, none⟩ = some (.int .i64 urows) := HY.out.cell 6
      have y7 : W2.cell? ⟨wr.heap.size + 1, 7, none⟩ = some (.int .i64 ucols) := HY.out.cell 7
      have y8 : W2.cell? ⟨wr.heap.size + 1, 8, none⟩ = some (.slice uA 0 uc) := HY.out.cell 8
      have HS := Lib.hid (show Calls Tryz.prog 14 #[.agg #[.int .i64 uk, .string unum, .string uden, .string utext, .bool uon, .int .i64 ucode, .int .i64 urows, .int .i64 ucols, .slice uA 0 uc], .agg #[.int .i64 uk, .string unum, .string uden, .string utext, .bool uon, .int .i64 ucode, .int .i64 urows, .int .i64 ucols, .slice uA 0 uc]] W2 fun e w' => e = .returned (.bool true) ∧ Below W2.heap.size W2 w' from same_v ⟨uk, unum, uden, utext, uon, ucode, urows, ucols, uA, 0, uc⟩ rfl W2)
      go_wp2_with (go_at_call 14; (with_reducible refine HS.out.mono ?_); rintro e w9 ⟨rfl, hb⟩; have HB9 := Lib.hid (HB2.out.trans (hb.mono HB2.out.size)); clear hb)
      go_roundw
      case rel => exact ⟨i + 1, by omega, by go_num, HB9⟩
      case measure => simp [intOf]; omega
    · have hlz : ¬ (i : Int) < (n : Int) := by omega
      obtain rfl : n = i := by omega
      go_wp2_with fail
      go_ret
      exact ⟨rfl, HB.out⟩
/-- Two arrays that read the same are the same. -/
theorem same_arr (r c : Int) (A1 A2 : Option Addr) (n c1 c2 : Nat) (l : List Vl) (w : World) (h1 : Reads 9 csV w (.slice A1 n c1) l) (h2 : Reads 9 csV w (.slice A2 n c2) l) (hs : ∀ u ∈ l, u.n = 0) (hn : n ≤ 100000) :
    Calls Tryz.prog 14 #[.agg #[.int .i64 5, .string ⟨#[]⟩, .string ⟨#[]⟩, .string ⟨#[]⟩, .bool false, .int .i64 0, .int .i64 r, .int .i64 c, .slice A1 n c1], .agg #[.int .i64 5, .string ⟨#[]⟩, .string ⟨#[]⟩, .string ⟨#[]⟩, .bool false, .int .i64 0, .int .i64 r, .int .i64 c, .slice A2 n c2]] w fun e w' => e = .returned (.bool true) ∧ Below w.heap.size w w' :=
  same_h 5 ⟨#[]⟩ ⟨#[]⟩ ⟨#[]⟩ false 0 r c A1 A2 n c1 n c2 w fun W hW => eqf_any A1 A2 n c1 c2 l W (h1.below hW) (h2.below hW) hs hn
end Go.Proofs.YtmapagbmihpbmaaGreatDoor

namespace Go.Proofs.YtmapagbmihpbmaaGreatDoor
open Go.RowKit

/-- Whether a code begins with region n. -/
def regIs (n : Nat) : Code → Bool
  | .region m _ _ => Nat.beq m n
  | .seq a _ => regIs n a
  | .block _ c => regIs n c
  | _ => false
/-- What follows from region n on. -/
def contAt (n : Nat) : Code → Option Code
  | .seq a b => match regIs n b with
    | true => some b
    | false => match contAt n a with
      | some c => some c
      | none => contAt n b
  | .block _ c => contAt n c
  | .loop c => contAt n c
  | _ => none
noncomputable def mrest29 : Code := ((Tryz.f6.body.bind (contAt 29)).getD .skip)
set_option maxRecDepth 100000 in
set_option maxHeartbeats 40000000 in
theorem make29 {u0 u1 u2 u5 u6 u7 u8 u9 u11 u12 u14 u15 u16 u17 u18 u19 u20 u21 u22 u23 u24 u25 u26 u27 u28 u29 u30 u31 u32 u33 u34 u35 u36 u37 u38 u39 u40 u41 u42 u43 u44 u45 u46 u47 u48 u49 u50 u51 u52 u53 u54 u55 u56 u57 u58 u59 u60 u61 u62 u63 u64 u65 u66 u67 u68 u69 u70 u71 u72 u73 u74 u75 u76 u77 u78 u79 u80 u81 u82 u83 u84 u85 u86 u87 u88 u89 u90 u91 u92 u93 u94 u95 u96 u97 u98 u99 u100 u101 u102 u103 u104 u105 u106 u107 u108 u109 u110 u111 u112 u113 u114 u115 u116 u117 u118 u119 u120 u121 u122 u123 u124 u125 u126 u127 u128 u129 u130 u131 u132 u133 u134 u135 u136 u137 u138 u139 u140 u141 u142 u143 u144 u145 u146 u147 u148 u149 u150 u151 u152 u153 u154 u155 u156 u157 u158 u159 u160 u161 u162 u163 u164 : Value} {w wz wr : World} {L1 : List (Nat × TypeId × Array Value)} {tB h1 h2 h3 n m : Nat} {RL : List Rm} {g1 c1 g2 c2 : Nat} {tk : Int} {tnum tden ttx : ByteArray} {ton : Bool} {tco tro tcl : Int} {tA : Option Addr} {tn tc : Nat} {K1 K2 : List Vl} {Rs : List Rm → Vl} {how : Int} {A3 A4 : Option Addr} {c3 c4 : Nat} (HM : Hid (Mk w wz L1 tB h1 h2 h3 n m RL (.slice (some ⟨g1, 0, none⟩) n c1) (.slice (some ⟨g2, 0, none⟩) m c2) K1 K2 Rs how)) (HTT : Hid (Rs RL = ⟨tk, tnum, tden, ttx, ton, tco, tro, tcl, tA, tn, tc⟩)) (HL : Hid (LS w wz wr L1 tB #[.slice (some ⟨g1, 0, none⟩) n c1, .slice (some ⟨g2, 0, none⟩) m c2, .slice A3 (n * m) c3, .slice A4 n c4, .slice none 0 0, .int .i64 tk, .string tnum, .string tden, .string ttx, .bool ton, .int .i64 tco, .int .i64 tro, .int .i64 tcl, .slice tA tn tc] wr.heap.size (.slice none 0 0) [] [(.slice A4 n c4, (List.range n).map (rowV Rs RL)), (.slice A3 (n * m) c3, (List.range (n * m)).map (cellV Rs RL m))])) :
    Code.wp Tryz.prog mrest29 (bodyPost Tryz.prog Tryz.f6 (MakeR n m K1 K2 RL Rs w)) ⟨#[u0, u1, u2, .pointer (some ⟨w.heap.size + 1, 0, none⟩), .pointer (some ⟨w.heap.size + 1 + 1, 0, none⟩), u5, u6, u7, u8, u9, .pointer (some ⟨tB, 0, none⟩), u11, u12, .slice (some ⟨h3, 0, none⟩) m m, u14, u15, u16, u17, u18, u19, u20, u21, u22, u23, u24, u25, u26, u27, u28, u29, u30, u31, u32, u33, u34, u35, u36, u37, u38, u39, u40, u41, u42, u43, u44, u45, u46, u47, u48, u49, u50, u51, u52, u53, u54, u55, u56, u57, u58, u59, u60, u61, u62, u63, u64, u65, u66, u67, u68, u69, u70, u71, u72, u73, u74, u75, u76, u77, u78, u79, u80, u81, u82, u83, u84, u85, u86, u87, u88, u89, u90, u91, u92, u93, u94, u95, u96, u97, u98, u99, u100, u101, u102, u103, u104, u105, u106, u107, u108, u109, u110, u111, u112, u113, u114, u115, u116, u117, u118, u119, u120, u121, u122, u123, u124, u125, u126, u127, u128, u129, u130, u131, u132, u133, u134, u135, u136, u137, u138, u139, u140, u141, u142, u143, u144, u145, u146, u147, u148, u149, u150, u151, u152, u153, u154, u155, u156, u157, u158, u159, u160, u161, u162, u163, u164], []⟩ wr := by
  conv => arg 2; whnf
  conv => arg 4; zeta
  go_wp2_with fail
  have HB0 := Lib.hid (show wr.heap.size = wr.heap.size from rfl)
  obtain ⟨B, hB⟩ : ∃ B, B = wr.heap.size := ⟨_, rfl⟩
  rw [← hB] at HL
  clear hB HB0
  go_loopw [150] (fun u150 wx => ∃ (i : Nat) (v : Value), i ≤ m ∧ u150 = .int .i64 i ∧ Hid (LS w wz wx L1 tB #[.slice (some ⟨g1, 0, none⟩) n c1, .slice (some ⟨g2, 0, none⟩) m c2, .slice A3 (n * m) c3, .slice A4 n c4, v, .int .i64 tk, .string tnum, .string tden, .string ttx, .bool ton, .int .i64 tco, .int .i64 tro, .int .i64 tcl, .slice tA tn tc] B v ((List.range i).map (colV Rs RL)) [(.slice A4 n c4, (List.range n).map (rowV Rs RL)), (.slice A3 (n * m) c3, (List.range (n * m)).map (cellV Rs RL m))])) (fun u _ => m - (intOf u).toNat)
  case atStart => exact ⟨0, .slice none 0 0, by omega, rfl, HL⟩
  case round =>
    clear HL
    obtain ⟨i, v, hi, rfl, HL⟩ := hrel
    have hn14 := HM.out.ln
    have hm14 := HM.out.lm
    by_cases hlt : i < m
    · have hlz : (i : Int) < (m : Int) := by omega
      obtain ⟨A, c, hcl⟩ := HM.out.hd3 i hlt
      obtain ⟨u, hu⟩ : ∃ u, u = Rs (Pv.gr1 Rm.col RL i) := ⟨_, rfl⟩
      have HRC := Lib.hid (show ∀ W, Loc w ((tB, 33, #[.slice (some ⟨g1, 0, none⟩) n c1, .slice (some ⟨g2, 0, none⟩) m c2, .slice A3 (n * m) c3, .slice A4 n c4, v, .int .i64 tk, .string tnum, .string tden, .string ttx, .bool ton, .int .i64 tco, .int .i64 tro, .int .i64 tcl, .slice tA tn tc]) :: L1) W → Chg wz.heap.size [tB] wz W → Calls Tryz.prog 19 #[.slice A (Pv.gr1 Rm.col RL i).length c, .int .i64 how] W fun e w' => e = .returned (.agg (vA u)) ∧ Below W.heap.size W w' from fun W h1 h2 => by
        rw [hu]
        exact HM.out.res A _ c _ W (HM.out.env.below h1.bel) (hcl W h2).2 (Nat.le_trans (gr1_len _ _ _) HM.out.len) (gr1_mem _ _ _))
      have e0 : wr.cell? ⟨h3, i, none⟩ = some (.slice A (Pv.gr1 Rm.col RL i).length c) := (hcl wr HL.out.chg).1
      have HUU := Lib.hid (show colV Rs RL i = u from hu.symm)
      clear hu
      obtain ⟨q, hq⟩ : ∃ q, q = (Pv.gr1 Rm.col RL i).length := ⟨_, rfl⟩
      rw [← hq] at HRC e0
      clear hcl hq
      have HS1 := Lib.hid (show ∀ W, Loc w ((tB, 33, #[.slice (some ⟨g1, 0, none⟩) n c1, .slice (some ⟨g2, 0, none⟩) m c2, .slice A3 (n * m) c3, .slice A4 n c4, v, .int .i64 tk, .string tnum, .string tden, .string ttx, .bool ton, .int .i64 tco, .int .i64 tro, .int .i64 tcl, .slice tA tn tc]) :: L1) W → W.cell? ⟨w.heap.size + 1, 3, none⟩ = some (.int .i64 how) from fun W h => LS.ask HM.out h)
      have HS2 := Lib.hid (show ∀ W, Loc w ((tB, 33, #[.slice (some ⟨g1, 0, none⟩) n c1, .slice (some ⟨g2, 0, none⟩) m c2, .slice A3 (n * m) c3, .slice A4 n c4, v, .int .i64 tk, .string tnum, .string tden, .string ttx, .bool ton, .int .i64 tco, .int .i64 tro, .int .i64 tcl, .slice tA tn tc]) :: L1) W → W.cell? ⟨tB, 4, none⟩ = some v from fun W h => (h.blk (g := tB) (t := 33) (List.mem_cons_self ..)).cell 4)
      obtain ⟨l, hl⟩ : ∃ l, l = (List.range i).map (colV Rs RL) := ⟨_, rfl⟩
      have hll : l.length = i := by rw [hl, List.length_map, List.length_range]
      have HSN := Lib.hid (show (List.range (i + 1)).map (colV Rs RL) = l ++ [u] from by rw [hl, List.range_succ, List.map_append, ← HUU.out]; rfl)
      rw [← hl] at HL
      clear hl HUU
      obtain ⟨uk, unum, uden, utext, uon, ucode, urows, ucols, uA, un, uc⟩ := u
      have HRC := Lib.hid (show ∀ W, Loc w ((tB, 33, #[.slice (some ⟨g1, 0, none⟩) n c1, .slice (some ⟨g2, 0, none⟩) m c2, .slice A3 (n * m) c3, .slice A4 n c4, v, .int .i64 tk, .string tnum, .string tden, .string ttx, .bool ton, .int .i64 tco, .int .i64 tro, .int .i64 tcl, .slice tA tn tc]) :: L1) W → Chg wz.heap.size [tB] wz W → Calls Tryz.prog 19 #[.slice A q c, .int .i64 how] W fun e w' => e = .returned (.agg #[.int .i64 uk, .string unum, .string uden, .string utext, .bool uon, .int .i64 ucode, .int .i64 urows, .int .i64 ucols, .slice uA un uc]) ∧ Below W.heap.size W w' from HRC.out)
      have HCS := Lib.hid (show (#[.int .i64 uk, .string unum, .string uden, .string utext, .bool uon, .int .i64 ucode, .int .i64 urows, .int .i64 ucols, .slice uA un uc] : Array Value).toList = csV ⟨uk, unum, uden, utext, uon, ucode, urows, ucols, uA, un, uc⟩ from rfl)
      go_upto_region 32 with fail
      refine wp_region_G (S1 := fun W => W.cell? ⟨w.heap.size + 1, 3, none⟩ = some (.int .i64 how)) (S2 := fun W => W.cell? ⟨tB, 4, none⟩ = some v) (d := 9) (by kernel_rfl) (HS1.out _ HL.out.drew.loc) (HS2.out _ HL.out.drew.loc) (fun hT => ?_)
      refine wpAnyG_take1 (i := 0) (v := ?_) rfl (by kernel_rfl) (by kernel_rfl) (by kernel_rfl) (by kernel_rfl) (fun _ _ _ h => h) (Or.inl ⟨by rfl, ?_⟩) (by assumption) (fun hT => ?_)
      rotate_left
      · intro w hSw
        (try dsimp only at hSw)
        go_simp
        (try with_reducible rfl)
      (try simp only [Act.put, List.setIfInBounds_toArray, List.set_cons_zero, List.set_cons_succ])
      refine wpAnyG_take2 (i := 1) (v := ?_) rfl (by kernel_rfl) (by kernel_rfl) (by kernel_rfl) (by kernel_rfl) (by kernel_rfl) (by kernel_rfl) (fun _ _ _ h => h) (Or.inl ⟨by rfl, ?_⟩) (by assumption) (fun hT => ?_)
      rotate_left
      · intro w hSw
        (try dsimp only at hSw)
        go_simp
        (try with_reducible rfl)
      (try simp only [Act.put, List.setIfInBounds_toArray, List.set_cons_zero, List.set_cons_succ])
      refine wpAnyG_take1 (i := 2) (v := ?_) rfl (by kernel_rfl) (by kernel_rfl) (by kernel_rfl) (by kernel_rfl) (fun _ _ _ h => h) (Or.inl ⟨by rfl, ?_⟩) (by assumption) (fun hT => ?_)
      rotate_left
      · intro w hSw
        (try dsimp only at hSw)
        go_simp
        (try with_reducible rfl)
      (try simp only [Act.put, List.setIfInBounds_toArray, List.set_cons_zero, List.set_cons_succ])
      refine wpAnyG_take1 (i := 3) (v := ?_) rfl (by kernel_rfl) (by kernel_rfl) (by kernel_rfl) (by kernel_rfl) (fun _ _ _ h => h) (Or.inl ⟨by rfl, ?_⟩) (by assumption) (fun hT => ?_)
      rotate_left
      · intro w hSw
        (try dsimp only at hSw)
        go_simp
        (try with_reducible rfl)
      (try simp only [Act.put, List.setIfInBounds_toArray, List.set_cons_zero, List.set_cons_succ])
      refine wpAnyG_take1 (i := 4) (v := ?_) rfl (by kernel_rfl) (by kernel_rfl) (by kernel_rfl) (by kernel_rfl) (fun _ _ _ h => h) (Or.inl ⟨by rfl, ?_⟩) (by assumption) (fun hT => ?_)
      rotate_left
      · intro w hSw
        (try dsimp only at hSw)
        go_simp
        (try with_reducible rfl)
      (try simp only [Act.put, List.setIfInBounds_toArray, List.set_cons_zero, List.set_cons_succ])
      refine wpAnyG_ready (rs := [5]) (by kernel_rfl) (by simp) ?_
      refine AllG.cons (i := 5) rfl (fun K hK => ?_) AllG.nil
      go_simp
      go_at_call 19
      with_reducible refine (HRC.out _ HL.out.drew.loc HL.out.drew.chg).mono ?_
      rintro e w1 ⟨rfl, hb⟩
      have HL1 := Lib.hid (HL.out.drew.step hb)
      clear hb
      refine hK.out _ _ ⟨HS1.out _ HL1.out.loc, .inr (HS2.out _ HL1.out.loc)⟩ (fun hT => ?_)
      clear hK K
      (try simp only [Act.put, List.setIfInBounds_toArray, List.set_cons_zero, List.set_cons_succ])
      refine wpAnyG_ready (rs := [6]) (by kernel_rfl) (by simp) ?_
      refine AllG.cons (i := 6) rfl (fun K hK => ?_) AllG.nil
      go_simp
      refine hK.out _ _ ⟨HS1.out _ (HL1.out.alloc _).loc, .inr (HS2.out _ (HL1.out.alloc _).loc)⟩ (fun hT => ?_)
      clear hK K
      (try simp only [Act.put, List.setIfInBounds_toArray, List.set_cons_zero, List.set_cons_succ])
      refine wpAnyG_ready (rs := [7]) (by kernel_rfl) (by simp) ?_
      refine AllG.cons (i := 7) rfl (fun K hK => ?_) AllG.nil
      refine step_row2 25 27 9 112 csV _ Tryz.underlying25 val_info rfl (by decide) csV_one rfl (.tmp 155) (.tmp 160) rfl B v l rfl (HL1.out.alloc _).row ⟨uk, unum, uden, utext, uon, ucode, urows, ucols, uA, un, uc⟩ w1.heap.size _ HCS.out (Blk.new w1 _ _) rfl (by omega) (by unfold maxLen; omega) (HL1.out.alloc _).base ?_
      intro gx cx w5 ho hb hg hx
      rw [hll] at ho
      have HL5 := Lib.hid (LS.grown HM.out (HL1.out.alloc _) hb ho)
      clear ho hb hg hx
      have r2c := HS2.out _ HL5.out.loc
      have r2f := (HL5.out.loc.blk (g := tB) (t := 33) (List.mem_cons_self ..)).frozen 4
      refine hK.out _ _ ⟨HS1.out _ HL5.out.loc, .inr (HS2.out _ HL5.out.loc)⟩ (fun hT => ?_)
      clear hK K
      (try simp only [Act.put, List.setIfInBounds_toArray, List.set_cons_zero, List.set_cons_succ])
      refine wpAnyG_take1 (i := 8) (v := ?_) rfl (by kernel_rfl) (by kernel_rfl) (by kernel_rfl) (by kernel_rfl) (fun _ _ _ h => h) (Or.inl ⟨by rfl, ?_⟩) (by assumption) (fun hT => ?_)
      rotate_left
      · intro w hSw
        (try dsimp only at hSw)
        go_simp
        (try with_reducible rfl)
      (try simp only [Act.put, List.setIfInBounds_toArray, List.set_cons_zero, List.set_cons_succ])
      refine wpAnyG_ready (rs := [9]) (by kernel_rfl) (by simp) ?_
      refine AllG.cons (i := 9) rfl (fun K hK => ?_) AllG.nil
      go_simp
      have HL6 := Lib.hid (show LS w wz _ L1 tB #[.slice (some ⟨g1, 0, none⟩) n c1, .slice (some ⟨g2, 0, none⟩) m c2, .slice A3 (n * m) c3, .slice A4 n c4, (.slice (some ⟨gx, 0, none⟩) (i + 1) cx), .int .i64 tk, .string tnum, .string tden, .string ttx, .bool ton, .int .i64 tco, .int .i64 tro, .int .i64 tcl, .slice tA tn tc] B _ _ [(.slice A4 n c4, (List.range n).map (rowV Rs RL)), (.slice A3 (n * m) c3, (List.range (n * m)).map (cellV Rs RL m))] from LS.put HM.out HL5.out 4 (.slice (some ⟨gx, 0, none⟩) (i + 1) cx))
      refine hK.out _ _ ⟨LS.ask HM.out HL6.out.loc, .inl rfl⟩ (fun hT => ?_)
      clear hK K
      (try simp only [Act.put, List.setIfInBounds_toArray, List.set_cons_zero, List.set_cons_succ])
      refine wpAnyG_done (by kernel_rfl) ?_ _
      go_wp2_with fail
      go_roundw
      case rel => exact ⟨i + 1, _, by omega, by go_num, Lib.hid (by rw [HSN.out]; exact HL6.out)⟩
      case measure => simp [intOf]; omega
    · have hlz : ¬ (i : Int) < (m : Int) := by omega
      obtain rfl : m = i := by omega
      obtain ⟨A5, c5, hv⟩ := (RowOf.reads HL.out.row csV_len).shape
      rw [List.length_map, List.length_range] at hv
      subst hv
      have hb1 := HL.out.loc.blk (g := tB) (t := 33) (List.mem_cons_self ..)
      have hb0 := HL.out.loc.blk (List.mem_cons_of_mem _ HM.out.out)
      have HB0 := Lib.hid hb0
      obtain ⟨k0, k1, k2, k3, k4, k5, k6, k7, k8, k9, k10, k11, k12, k13⟩ := hb1.fourteen
      obtain ⟨z0, z1, z2, z3, z4, z5, z6, z7, z8, z9, z10, z11, z12, z13⟩ := hb0.fourteen
      obtain ⟨f0, f1, f2, f3, f4, f5, f6, f7, f8, f9, f10, f11, f12, f13⟩ := hb0.fourteenf
      obtain ⟨bs, q0, q1, q2, q3, q4, q5, q6, q7, q8, q9, q10, q11, q12, q13⟩ := hb0.fourteen_set (.slice (some ⟨g1, 0, none⟩) n c1) (.slice (some ⟨g2, 0, none⟩) m c2) (.slice A3 (n * m) c3) (.slice A4 n c4) (.slice A5 m c5) (.int .i64 tk) (.string tnum) (.string tden) (.string ttx) (.bool ton) (.int .i64 tco) (.int .i64 tro) (.int .i64 tcl) (.slice tA tn tc)
      have BS := Lib.hid bs
      clear bs hb0 hb1
      go_wp2_with fail
      obtain ⟨q0, q1, q2, q3, q4, q5, q6, q7, q8, q9, q10, q11, q12, q13⟩ := BS.out.fourteen
      refine bodyPost_ret (v := .tuple #[.agg #[.slice (some ⟨g1, 0, none⟩) n c1, .slice (some ⟨g2, 0, none⟩) m c2, .slice A3 (n * m) c3, .slice A4 n c4, .slice A5 m c5, .int .i64 tk, .string tnum, .string tden, .string ttx, .bool ton, .int .i64 tco, .int .i64 tro, .int .i64 tcl, .slice tA tn tc], .int .i64 0]) (by simp [results, Tryz.results6, go_sem, q0, q1, q2, q3, q4, q5, q6, q7, q8, q9, q10, q11, q12, q13]) rfl ?_
      have hlow := HM.out.low
      have hne := HM.out.lt _ HM.out.out
      have hltB := HM.out.ltB
      dsimp only at hne
      have hch := fun y0 y1 y2 y3 y4 y5 y6 y7 y8 y9 y10 y11 y12 y13 => (((((((((((((((Chg.refl wr.heap.size [w.heap.size + 1 + 1] wr).set (p := ⟨w.heap.size + 1 + 1, 0, none⟩) (.inl (List.mem_singleton.2 rfl)) y0).set (p := ⟨w.heap.size + 1 + 1, 1, none⟩) (.inl (List.mem_singleton.2 rfl)) y1).set (p := ⟨w.heap.size + 1 + 1, 2, none⟩) (.inl (List.mem_singleton.2 rfl)) y2).set (p := ⟨w.heap.size + 1 + 1, 3, none⟩) (.inl (List.mem_singleton.2 rfl)) y3).set (p := ⟨w.heap.size + 1 + 1, 4, none⟩) (.inl (List.mem_singleton.2 rfl)) y4).set (p := ⟨w.heap.size + 1 + 1, 5, none⟩) (.inl (List.mem_singleton.2 rfl)) y5).set (p := ⟨w.heap.size + 1 + 1, 6, none⟩) (.inl (List.mem_singleton.2 rfl)) y6).set (p := ⟨w.heap.size + 1 + 1, 7, none⟩) (.inl (List.mem_singleton.2 rfl)) y7).set (p := ⟨w.heap.size + 1 + 1, 8, none⟩) (.inl (List.mem_singleton.2 rfl)) y8).set (p := ⟨w.heap.size + 1 + 1, 9, none⟩) (.inl (List.mem_singleton.2 rfl)) y9).set (p := ⟨w.heap.size + 1 + 1, 10, none⟩) (.inl (List.mem_singleton.2 rfl)) y10).set (p := ⟨w.heap.size + 1 + 1, 11, none⟩) (.inl (List.mem_singleton.2 rfl)) y11).set (p := ⟨w.heap.size + 1 + 1, 12, none⟩) (.inl (List.mem_singleton.2 rfl)) y12).set (p := ⟨w.heap.size + 1 + 1, 13, none⟩) (.inl (List.mem_singleton.2 rfl)) y13)
      have hbel := fun y0 y1 y2 y3 y4 y5 y6 y7 y8 y9 y10 y11 y12 y13 => below_fourteen HL.out.bel (g := w.heap.size + 1 + 1) (by omega) y0 y1 y2 y3 y4 y5 y6 y7 y8 y9 y10 y11 y12 y13
      have hty : ∀ g ∈ [w.heap.size + 1 + 1], ∃ t cs, Blk wr g t cs ∧ t ≠ 27 ∧ t ≠ 25 := fun g hg => by
        obtain rfl := List.mem_singleton.1 hg
        exact ⟨_, _, HB0.out, by decide, by decide⟩
      have hkt := HM.out.kt wr HL.out.chg
      have hrd : ∀ {v : Value} {l : List Vl} {W : World}, Chg wr.heap.size [w.heap.size + 1 + 1] wr W → RV wr wz.heap.size v l → Reads 9 csV W v l := fun hc ho => RowOf.reads (RowOf.chg ho hc fun k hk => ⟨(RowOf.lt ho k hk).2, fun hm => by
        have h1 := (RowOf.lt ho k hk).1
        have h2 := List.mem_singleton.1 hm
        omega⟩) csV_len
      have h4 := (HL.out.fin _ (List.mem_cons_self ..)).1
      have h3 := (HL.out.fin _ (List.mem_cons_of_mem _ (List.mem_cons_self ..))).1
      dsimp only at h3 h4
      refine ⟨g1, c1, g2, c2, A3, c3, A4, c4, A5, c5, by rw [HTT.out], hkt.1.chg (hch _ _ _ _ _ _ _ _ _ _ _ _ _ _) hty, hkt.2.chg (hch _ _ _ _ _ _ _ _ _ _ _ _ _ _) hty, hrd (hch _ _ _ _ _ _ _ _ _ _ _ _ _ _) h3, hrd (hch _ _ _ _ _ _ _ _ _ _ _ _ _ _) h4, hrd (hch _ _ _ _ _ _ _ _ _ _ _ _ _ _) (RowOf.mono HL.out.row HL.out.le), hbel _ _ _ _ _ _ _ _ _ _ _ _ _ _⟩
end Go.Proofs.YtmapagbmihpbmaaGreatDoor

namespace Go.Proofs.YtmapagbmihpbmaaGreatDoor
open Go.RowKit

noncomputable def mrest24 : Code := ((Tryz.f6.body.bind (contAt 24)).getD .skip)
set_option maxRecDepth 100000 in
set_option maxHeartbeats 40000000 in
theorem make24 {u0 u1 u2 u5 u6 u7 u8 u9 u11 u14 u15 u16 u17 u18 u19 u20 u21 u22 u23 u24 u25 u26 u27 u28 u29 u30 u31 u32 u33 u34 u35 u36 u37 u38 u39 u40 u41 u42 u43 u44 u45 u46 u47 u48 u49 u50 u51 u52 u53 u54 u55 u56 u57 u58 u59 u60 u61 u62 u63 u64 u65 u66 u67 u68 u69 u70 u71 u72 u73 u74 u75 u76 u77 u78 u79 u80 u81 u82 u83 u84 u85 u86 u87 u88 u89 u90 u91 u92 u93 u94 u95 u96 u97 u98 u99 u100 u101 u102 u103 u104 u105 u106 u107 u108 u109 u110 u111 u112 u113 u114 u115 u116 u117 u118 u119 u120 u121 u122 u123 u124 u125 u126 u127 u128 u129 u130 u131 u132 u133 u134 u135 u136 u137 u138 u139 u140 u141 u142 u143 u144 u145 u146 u147 u148 u149 u150 u151 u152 u153 u154 u155 u156 u157 u158 u159 u160 u161 u162 u163 u164 : Value} {w wz wr : World} {L1 : List (Nat × TypeId × Array Value)} {tB h1 h2 h3 n m : Nat} {RL : List Rm} {g1 c1 g2 c2 : Nat} {tk : Int} {tnum tden ttx : ByteArray} {ton : Bool} {tco tro tcl : Int} {tA : Option Addr} {tn tc : Nat} {K1 K2 : List Vl} {Rs : List Rm → Vl} {how : Int} {A3 : Option Addr} {c3 : Nat} (HM : Hid (Mk w wz L1 tB h1 h2 h3 n m RL (.slice (some ⟨g1, 0, none⟩) n c1) (.slice (some ⟨g2, 0, none⟩) m c2) K1 K2 Rs how)) (HTT : Hid (Rs RL = ⟨tk, tnum, tden, ttx, ton, tco, tro, tcl, tA, tn, tc⟩)) (HL : Hid (LS w wz wr L1 tB #[.slice (some ⟨g1, 0, none⟩) n c1, .slice (some ⟨g2, 0, none⟩) m c2, .slice A3 (n * m) c3, .slice none 0 0, .slice none 0 0, .int .i64 tk, .string tnum, .string tden, .string ttx, .bool ton, .int .i64 tco, .int .i64 tro, .int .i64 tcl, .slice tA tn tc] wr.heap.size (.slice none 0 0) [] [(.slice A3 (n * m) c3, (List.range (n * m)).map (cellV Rs RL m))])) :
    Code.wp Tryz.prog mrest24 (bodyPost Tryz.prog Tryz.f6 (MakeR n m K1 K2 RL Rs w)) ⟨#[u0, u1, u2, .pointer (some ⟨w.heap.size + 1, 0, none⟩), .pointer (some ⟨w.heap.size + 1 + 1, 0, none⟩), u5, u6, u7, u8, u9, .pointer (some ⟨tB, 0, none⟩), u11, .slice (some ⟨h2, 0, none⟩) n n, .slice (some ⟨h3, 0, none⟩) m m, u14, u15, u16, u17, u18, u19, u20, u21, u22, u23, u24, u25, u26, u27, u28, u29, u30, u31, u32, u33, u34, u35, u36, u37, u38, u39, u40, u41, u42, u43, u44, u45, u46, u47, u48, u49, u50, u51, u52, u53, u54, u55, u56, u57, u58, u59, u60, u61, u62, u63, u64, u65, u66, u67, u68, u69, u70, u71, u72, u73, u74, u75, u76, u77, u78, u79, u80, u81, u82, u83, u84, u85, u86, u87, u88, u89, u90, u91, u92, u93, u94, u95, u96, u97, u98, u99, u100, u101, u102, u103, u104, u105, u106, u107, u108, u109, u110, u111, u112, u113, u114, u115, u116, u117, u118, u119, u120, u121, u122, u123, u124, u125, u126, u127, u128, u129, u130, u131, u132, u133, u134, u135, u136, u137, u138, u139, u140, u141, u142, u143, u144, u145, u146, u147, u148, u149, u150, u151, u152, u153, u154, u155, u156, u157, u158, u159, u160, u161, u162, u163, u164], []⟩ wr := by
  conv => arg 2; whnf
  conv => arg 4; zeta
  go_upto_block 4 with fail
  go_cut [] (fun wx => ∃ (A4 : Option Addr) (c4 : Nat), Hid (LS w wz wx L1 tB #[.slice (some ⟨g1, 0, none⟩) n c1, .slice (some ⟨g2, 0, none⟩) m c2, .slice A3 (n * m) c3, .slice A4 n c4, .slice none 0 0, .int .i64 tk, .string tnum, .string tden, .string ttx, .bool ton, .int .i64 tco, .int .i64 tro, .int .i64 tcl, .slice tA tn tc] wx.heap.size (.slice none 0 0) [] [(.slice A4 n c4, (List.range n).map (rowV Rs RL)), (.slice A3 (n * m) c3, (List.range (n * m)).map (cellV Rs RL m))]))
  case first =>
    go_wp2_with fail
    have HB0 := Lib.hid (show wr.heap.size = wr.heap.size from rfl)
    obtain ⟨B, hB⟩ : ∃ B, B = wr.heap.size := ⟨_, rfl⟩
    rw [← hB] at HL
    clear hB HB0
    go_loopw [134] (fun u134 wx => ∃ (i : Nat) (v : Value), i ≤ n ∧ u134 = .int .i64 i ∧ Hid (LS w wz wx L1 tB #[.slice (some ⟨g1, 0, none⟩) n c1, .slice (some ⟨g2, 0, none⟩) m c2, .slice A3 (n * m) c3, v, .slice none 0 0, .int .i64 tk, .string tnum, .string tden, .string ttx, .bool ton, .int .i64 tco, .int .i64 tro, .int .i64 tcl, .slice tA tn tc] B v ((List.range i).map (rowV Rs RL)) [(.slice A3 (n * m) c3, (List.range (n * m)).map (cellV Rs RL m))])) (fun u _ => n - (intOf u).toNat)
    case atStart => exact ⟨0, .slice none 0 0, by omega, rfl, HL⟩
    case round =>
      clear HL
      obtain ⟨i, v, hi, rfl, HL⟩ := hrel
      have hn14 := HM.out.ln
      have hm14 := HM.out.lm
      by_cases hlt : i < n
      · have hlz : (i : Int) < (n : Int) := by omega
        obtain ⟨A, c, hcl⟩ := HM.out.hd2 i hlt
        obtain ⟨u, hu⟩ : ∃ u, u = Rs (Pv.gr1 Rm.row RL i) := ⟨_, rfl⟩
        have HRC := Lib.hid (show ∀ W, Loc w ((tB, 33, #[.slice (some ⟨g1, 0, none⟩) n c1, .slice (some ⟨g2, 0, none⟩) m c2, .slice A3 (n * m) c3, v, .slice none 0 0, .int .i64 tk, .string tnum, .string tden, .string ttx, .bool ton, .int .i64 tco, .int .i64 tro, .int .i64 tcl, .slice tA tn tc]) :: L1) W → Chg wz.heap.size [tB] wz W → Calls Tryz.prog 19 #[.slice A (Pv.gr1 Rm.row RL i).length c, .int .i64 how] W fun e w' => e = .returned (.agg (vA u)) ∧ Below W.heap.size W w' from fun W h1 h2 => by
          rw [hu]
          exact HM.out.res A _ c _ W (HM.out.env.below h1.bel) (hcl W h2).2 (Nat.le_trans (gr1_len _ _ _) HM.out.len) (gr1_mem _ _ _))
        have e0 : wr.cell? ⟨h2, i, none⟩ = some (.slice A (Pv.gr1 Rm.row RL i).length c) := (hcl wr HL.out.chg).1
        have HUU := Lib.hid (show rowV Rs RL i = u from hu.symm)
        clear hu
        obtain ⟨q, hq⟩ : ∃ q, q = (Pv.gr1 Rm.row RL i).length := ⟨_, rfl⟩
        rw [← hq] at HRC e0
        clear hcl hq
        have HS1 := Lib.hid (show ∀ W, Loc w ((tB, 33, #[.slice (some ⟨g1, 0, none⟩) n c1, .slice (some ⟨g2, 0, none⟩) m c2, .slice A3 (n * m) c3, v, .slice none 0 0, .int .i64 tk, .string tnum, .string tden, .string ttx, .bool ton, .int .i64 tco, .int .i64 tro, .int .i64 tcl, .slice tA tn tc]) :: L1) W → W.cell? ⟨w.heap.size + 1, 3, none⟩ = some (.int .i64 how) from fun W h => LS.ask HM.out h)
        have HS2 := Lib.hid (show ∀ W, Loc w ((tB, 33, #[.slice (some ⟨g1, 0, none⟩) n c1, .slice (some ⟨g2, 0, none⟩) m c2, .slice A3 (n * m) c3, v, .slice none 0 0, .int .i64 tk, .string tnum, .string tden, .string ttx, .bool ton, .int .i64 tco, .int .i64 tro, .int .i64 tcl, .slice tA tn tc]) :: L1) W → W.cell? ⟨tB, 3, none⟩ = some v from fun W h => (h.blk (g := tB) (t := 33) (List.mem_cons_self ..)).cell 3)
        obtain ⟨l, hl⟩ : ∃ l, l = (List.range i).map (rowV Rs RL) := ⟨_, rfl⟩
        have hll : l.length = i := by rw [hl, List.length_map, List.length_range]
        have HSN := Lib.hid (show (List.range (i + 1)).map (rowV Rs RL) = l ++ [u] from by rw [hl, List.range_succ, List.map_append, ← HUU.out]; rfl)
        rw [← hl] at HL
        clear hl HUU
        obtain ⟨uk, unum, uden, utext, uon, ucode, urows, ucols, uA, un, uc⟩ := u
        have HRC := Lib.hid (show ∀ W, Loc w ((tB, 33, #[.slice (some ⟨g1, 0, none⟩) n c1, .slice (some ⟨g2, 0, none⟩) m c2, .slice A3 (n * m) c3, v, .slice none 0 0, .int .i64 tk, .string tnum, .string tden, .string ttx, .bool ton, .int .i64 tco, .int .i64 tro, .int .i64 tcl, .slice tA tn tc]) :: L1) W → Chg wz.heap.size [tB] wz W → Calls Tryz.prog 19 #[.slice A q c, .int .i64 how] W fun e w' => e = .returned (.agg #[.int .i64 uk, .string unum, .string uden, .string utext, .bool uon, .int .i64 ucode, .int .i64 urows, .int .i64 ucols, .slice uA un uc]) ∧ Below W.heap.size W w' from HRC.out)
        have HCS := Lib.hid (show (#[.int .i64 uk, .string unum, .string uden, .string utext, .bool uon, .int .i64 ucode, .int .i64 urows, .int .i64 ucols, .slice uA un uc] : Array Value).toList = csV ⟨uk, unum, uden, utext, uon, ucode, urows, ucols, uA, un, uc⟩ from rfl)
        go_upto_region 27 with fail
        refine wp_region_G (S1 := fun W => W.cell? ⟨w.heap.size + 1, 3, none⟩ = some (.int .i64 how)) (S2 := fun W => W.cell? ⟨tB, 3, none⟩ = some v) (d := 9) (by kernel_rfl) (HS1.out _ HL.out.drew.loc) (HS2.out _ HL.out.drew.loc) (fun hT => ?_)
        refine wpAnyG_take1 (i := 0) (v := ?_) rfl (by kernel_rfl) (by kernel_rfl) (by kernel_rfl) (by kernel_rfl) (fun _ _ _ h => h) (Or.inl ⟨by rfl, ?_⟩) (by assumption) (fun hT => ?_)
        rotate_left
        · intro w hSw
          (try dsimp only at hSw)
          go_simp
          (try with_reducible rfl)
        (try simp only [Act.put, List.setIfInBounds_toArray, List.set_cons_zero, List.set_cons_succ])
        refine wpAnyG_take2 (i := 1) (v := ?_) rfl (by kernel_rfl) (by kernel_rfl) (by kernel_rfl) (by kernel_rfl) (by kernel_rfl) (by kernel_rfl) (fun _ _ _ h => h) (Or.inl ⟨by rfl, ?_⟩) (by assumption) (fun hT => ?_)
        rotate_left
        · intro w hSw
          (try dsimp only at hSw)
          go_simp
          (try with_reducible rfl)
        (try simp only [Act.put, List.setIfInBounds_toArray, List.set_cons_zero, List.set_cons_succ])
        refine wpAnyG_take1 (i := 2) (v := ?_) rfl (by kernel_rfl) (by kernel_rfl) (by kernel_rfl) (by kernel_rfl) (fun _ _ _ h => h) (Or.inl ⟨by rfl, ?_⟩) (by assumption) (fun hT => ?_)
        rotate_left
        · intro w hSw
          (try dsimp only at hSw)
          go_simp
          (try with_reducible rfl)
        (try simp only [Act.put, List.setIfInBounds_toArray, List.set_cons_zero, List.set_cons_succ])
        refine wpAnyG_take1 (i := 3) (v := ?_) rfl (by kernel_rfl) (by kernel_rfl) (by kernel_rfl) (by kernel_rfl) (fun _ _ _ h => h) (Or.inl ⟨by rfl, ?_⟩) (by assumption) (fun hT => ?_)
        rotate_left
        · intro w hSw
          (try dsimp only at hSw)
          go_simp
          (try with_reducible rfl)
        (try simp only [Act.put, List.setIfInBounds_toArray, List.set_cons_zero, List.set_cons_succ])
        refine wpAnyG_take1 (i := 4) (v := ?_) rfl (by kernel_rfl) (by kernel_rfl) (by kernel_rfl) (by kernel_rfl) (fun _ _ _ h => h) (Or.inl ⟨by rfl, ?_⟩) (by assumption) (fun hT => ?_)
        rotate_left
        · intro w hSw
          (try dsimp only at hSw)
          go_simp
          (try with_reducible rfl)
        (try simp only [Act.put, List.setIfInBounds_toArray, List.set_cons_zero, List.set_cons_succ])
        refine wpAnyG_ready (rs := [5]) (by kernel_rfl) (by simp) ?_
        refine AllG.cons (i := 5) rfl (fun K hK => ?_) AllG.nil
        go_simp
        go_at_call 19
        with_reducible refine (HRC.out _ HL.out.drew.loc HL.out.drew.chg).mono ?_
        rintro e w1 ⟨rfl, hb⟩
        have HL1 := Lib.hid (HL.out.drew.step hb)
        clear hb
        refine hK.out _ _ ⟨HS1.out _ HL1.out.loc, .inr (HS2.out _ HL1.out.loc)⟩ (fun hT => ?_)
        clear hK K
        (try simp only [Act.put, List.setIfInBounds_toArray, List.set_cons_zero, List.set_cons_succ])
        refine wpAnyG_ready (rs := [6]) (by kernel_rfl) (by simp) ?_
        refine AllG.cons (i := 6) rfl (fun K hK => ?_) AllG.nil
        go_simp
        refine hK.out _ _ ⟨HS1.out _ (HL1.out.alloc _).loc, .inr (HS2.out _ (HL1.out.alloc _).loc)⟩ (fun hT => ?_)
        clear hK K
        (try simp only [Act.put, List.setIfInBounds_toArray, List.set_cons_zero, List.set_cons_succ])
        refine wpAnyG_ready (rs := [7]) (by kernel_rfl) (by simp) ?_
        refine AllG.cons (i := 7) rfl (fun K hK => ?_) AllG.nil
        refine step_row2 25 27 9 112 csV _ Tryz.underlying25 val_info rfl (by decide) csV_one rfl (.tmp 139) (.tmp 144) rfl B v l rfl (HL1.out.alloc _).row ⟨uk, unum, uden, utext, uon, ucode, urows, ucols, uA, un, uc⟩ w1.heap.size _ HCS.out (Blk.new w1 _ _) rfl (by omega) (by unfold maxLen; omega) (HL1.out.alloc _).base ?_
        intro gx cx w5 ho hb hg hx
        rw [hll] at ho
        have HL5 := Lib.hid (LS.grown HM.out (HL1.out.alloc _) hb ho)
        clear ho hb hg hx
        have r2c := HS2.out _ HL5.out.loc
        have r2f := (HL5.out.loc.blk (g := tB) (t := 33) (List.mem_cons_self ..)).frozen 3
        refine hK.out _ _ ⟨HS1.out _ HL5.out.loc, .inr (HS2.out _ HL5.out.loc)⟩ (fun hT => ?_)
        clear hK K
        (try simp only [Act.put, List.setIfInBounds_toArray, List.set_cons_zero, List.set_cons_succ])
        refine wpAnyG_take1 (i := 8) (v := ?_) rfl (by kernel_rfl) (by kernel_rfl) (by kernel_rfl) (by kernel_rfl) (fun _ _ _ h => h) (Or.inl ⟨by rfl, ?_⟩) (by assumption) (fun hT => ?_)
        rotate_left
        · intro w hSw
          (try dsimp only at hSw)
          go_simp
          (try with_reducible rfl)
        (try simp only [Act.put, List.setIfInBounds_toArray, List.set_cons_zero, List.set_cons_succ])
        refine wpAnyG_ready (rs := [9]) (by kernel_rfl) (by simp) ?_
        refine AllG.cons (i := 9) rfl (fun K hK => ?_) AllG.nil
        go_simp
        have HL6 := Lib.hid (show LS w wz _ L1 tB #[.slice (some ⟨g1, 0, none⟩) n c1, .slice (some ⟨g2, 0, none⟩) m c2, .slice A3 (n * m) c3, (.slice (some ⟨gx, 0, none⟩) (i + 1) cx), .slice none 0 0, .int .i64 tk, .string tnum, .string tden, .string ttx, .bool ton, .int .i64 tco, .int .i64 tro, .int .i64 tcl, .slice tA tn tc] B _ _ [(.slice A3 (n * m) c3, (List.range (n * m)).map (cellV Rs RL m))] from LS.put HM.out HL5.out 3 (.slice (some ⟨gx, 0, none⟩) (i + 1) cx))
        refine hK.out _ _ ⟨LS.ask HM.out HL6.out.loc, .inl rfl⟩ (fun hT => ?_)
        clear hK K
        (try simp only [Act.put, List.setIfInBounds_toArray, List.set_cons_zero, List.set_cons_succ])
        refine wpAnyG_done (by kernel_rfl) ?_ _
        go_wp2_with fail
        go_roundw
        case rel => exact ⟨i + 1, _, by omega, by go_num, Lib.hid (by rw [HSN.out]; exact HL6.out)⟩
        case measure => simp [intOf]; omega
      · have hlz : ¬ (i : Int) < (n : Int) := by omega
        obtain rfl : n = i := by omega
        obtain ⟨A4, c4, hv⟩ := (RowOf.reads HL.out.row csV_len).shape
        rw [List.length_map, List.length_range] at hv
        subst hv
        have HL9 := Lib.hid HL.out.next
        go_wp2_with fail
        go_meet
        exact ⟨A4, c4, HL9⟩
  case rest =>
    clear HL
    obtain ⟨A4, c4, HL⟩ := hcut
    go_step
    exact make29 HM HTT HL
end Go.Proofs.YtmapagbmihpbmaaGreatDoor

namespace Go.Proofs.YtmapagbmihpbmaaGreatDoor
open Go.RowKit

noncomputable def mrest16 : Code := ((Tryz.f6.body.bind (contAt 16)).getD .skip)
set_option maxRecDepth 100000 in
set_option maxHeartbeats 40000000 in
theorem make16 {u0 u1 u2 u5 u6 u7 u8 u9 u14 u15 u16 u17 u18 u19 u20 u21 u22 u23 u24 u25 u26 u27 u28 u29 u30 u31 u32 u33 u34 u35 u36 u37 u38 u39 u40 u41 u42 u43 u44 u45 u46 u47 u48 u49 u50 u51 u52 u53 u54 u55 u56 u57 u58 u59 u60 u61 u62 u63 u64 u65 u66 u67 u68 u69 u70 u71 u72 u73 u74 u75 u76 u77 u78 u79 u80 u81 u82 u83 u84 u85 u86 u87 u88 u89 u90 u91 u92 u93 u94 u95 u96 u97 u98 u99 u100 u101 u102 u103 u104 u105 u106 u107 u108 u109 u110 u111 u112 u113 u114 u115 u116 u117 u118 u119 u120 u121 u122 u123 u124 u125 u126 u127 u128 u129 u130 u131 u132 u133 u134 u135 u136 u137 u138 u139 u140 u141 u142 u143 u144 u145 u146 u147 u148 u149 u150 u151 u152 u153 u154 u155 u156 u157 u158 u159 u160 u161 u162 u163 u164 : Value} {w wz wr : World} {L1 : List (Nat × TypeId × Array Value)} {tB h1 h2 h3 n m : Nat} {RL : List Rm} {g1 c1 g2 c2 : Nat} {tk : Int} {tnum tden ttx : ByteArray} {ton : Bool} {tco tro tcl : Int} {tA : Option Addr} {tn tc : Nat} {K1 K2 : List Vl} {Rs : List Rm → Vl} {how : Int} {NM : Nat} (HM : Hid (Mk w wz L1 tB h1 h2 h3 n m RL (.slice (some ⟨g1, 0, none⟩) n c1) (.slice (some ⟨g2, 0, none⟩) m c2) K1 K2 Rs how)) (HTT : Hid (Rs RL = ⟨tk, tnum, tden, ttx, ton, tco, tro, tcl, tA, tn, tc⟩)) (HNM : Hid (NM = n * m)) (HL : Hid (LS w wz wr L1 tB #[.slice (some ⟨g1, 0, none⟩) n c1, .slice (some ⟨g2, 0, none⟩) m c2, .slice none 0 0, .slice none 0 0, .slice none 0 0, .int .i64 tk, .string tnum, .string tden, .string ttx, .bool ton, .int .i64 tco, .int .i64 tro, .int .i64 tcl, .slice tA tn tc] wr.heap.size (.slice none 0 0) [] [])) :
    Code.wp Tryz.prog mrest16 (bodyPost Tryz.prog Tryz.f6 (MakeR n m K1 K2 RL Rs w)) ⟨#[u0, u1, u2, .pointer (some ⟨w.heap.size + 1, 0, none⟩), .pointer (some ⟨w.heap.size + 1 + 1, 0, none⟩), u5, u6, u7, u8, u9, .pointer (some ⟨tB, 0, none⟩), .slice (some ⟨h1, 0, none⟩) NM NM, .slice (some ⟨h2, 0, none⟩) n n, .slice (some ⟨h3, 0, none⟩) m m, u14, u15, u16, u17, u18, u19, u20, u21, u22, u23, u24, u25, u26, u27, u28, u29, u30, u31, u32, u33, u34, u35, u36, u37, u38, u39, u40, u41, u42, u43, u44, u45, u46, u47, u48, u49, u50, u51, u52, u53, u54, u55, u56, u57, u58, u59, u60, u61, u62, u63, u64, u65, u66, u67, u68, u69, u70, u71, u72, u73, u74, u75, u76, u77, u78, u79, u80, u81, u82, u83, u84, u85, u86, u87, u88, u89, u90, u91, u92, u93, u94, u95, u96, u97, u98, u99, u100, u101, u102, u103, u104, u105, u106, u107, u108, u109, u110, u111, u112, u113, u114, u115, u116, u117, u118, u119, u120, u121, u122, u123, u124, u125, u126, u127, u128, u129, u130, u131, u132, u133, u134, u135, u136, u137, u138, u139, u140, u141, u142, u143, u144, u145, u146, u147, u148, u149, u150, u151, u152, u153, u154, u155, u156, u157, u158, u159, u160, u161, u162, u163, u164], []⟩ wr := by
  conv => arg 2; whnf
  conv => arg 4; zeta
  have hnm : NM ≤ 196 := by rw [HNM.out]; exact Nat.le_trans (Nat.mul_le_mul HM.out.ln HM.out.lm) (by decide)
  go_upto_block 2 with fail
  go_cut [] (fun wx => ∃ (A3 : Option Addr) (c3 : Nat), Hid (LS w wz wx L1 tB #[.slice (some ⟨g1, 0, none⟩) n c1, .slice (some ⟨g2, 0, none⟩) m c2, .slice A3 NM c3, .slice none 0 0, .slice none 0 0, .int .i64 tk, .string tnum, .string tden, .string ttx, .bool ton, .int .i64 tco, .int .i64 tro, .int .i64 tcl, .slice tA tn tc] wx.heap.size (.slice none 0 0) [] [(.slice A3 NM c3, (List.range NM).map (cellV Rs RL m))]))
  case first =>
    go_wp2_with fail
    obtain ⟨B, hB⟩ : ∃ B, B = wr.heap.size := ⟨_, rfl⟩
    rw [← hB] at HL
    clear hB
    go_loopw [114] (fun u114 wx => ∃ (i : Nat) (v : Value), i ≤ NM ∧ u114 = .int .i64 i ∧ Hid (LS w wz wx L1 tB #[.slice (some ⟨g1, 0, none⟩) n c1, .slice (some ⟨g2, 0, none⟩) m c2, v, .slice none 0 0, .slice none 0 0, .int .i64 tk, .string tnum, .string tden, .string ttx, .bool ton, .int .i64 tco, .int .i64 tro, .int .i64 tcl, .slice tA tn tc] B v ((List.range i).map (cellV Rs RL m)) [])) (fun u _ => NM - (intOf u).toNat)
    case atStart => exact ⟨0, .slice none 0 0, by omega, rfl, HL⟩
    case round =>
      clear HL
      obtain ⟨i, v, hi, rfl, HL⟩ := hrel
      by_cases hlt : i < NM
      · have hlz : (i : Int) < (NM : Int) := by omega
        obtain ⟨A, c, hcl⟩ := HM.out.hd1 i (HNM.out ▸ hlt)
        obtain ⟨r, hr⟩ : ∃ r, r = Rs (grM RL (i / m) (i % m)) := ⟨_, rfl⟩
        have HRC := Lib.hid (show ∀ W, Loc w ((tB, 33, #[.slice (some ⟨g1, 0, none⟩) n c1, .slice (some ⟨g2, 0, none⟩) m c2, v, .slice none 0 0, .slice none 0 0, .int .i64 tk, .string tnum, .string tden, .string ttx, .bool ton, .int .i64 tco, .int .i64 tro, .int .i64 tcl, .slice tA tn tc]) :: L1) W → Chg wz.heap.size [tB] wz W → Calls Tryz.prog 19 #[.slice A (grM RL (i / m) (i % m)).length c, .int .i64 how] W fun e w' => e = .returned (.agg (vA r)) ∧ Below W.heap.size W w' from fun W h1 h2 => by
          rw [hr]
          exact HM.out.res A _ c _ W (HM.out.env.below h1.bel) (hcl W h2).2 (Nat.le_trans (grM_len _ _ _) HM.out.len) (grM_mem _ _ _))
        have e0 : wr.cell? ⟨h1, i, none⟩ = some (.slice A (grM RL (i / m) (i % m)).length c) := (hcl wr HL.out.chg).1
        have hq14 := Nat.le_trans (grM_len RL (i / m) (i % m)) HM.out.len
        obtain ⟨q, hq⟩ : ∃ q, q = (grM RL (i / m) (i % m)).length := ⟨_, rfl⟩
        rw [← hq] at HRC e0 hq14
        have HC0 := Lib.hid (show q = 0 → zV = cellV Rs RL m i from fun h => by unfold cellV; rw [if_pos (by rw [← hq]; exact h)])
        have HC1 := Lib.hid (show ¬ q = 0 → r = cellV Rs RL m i from fun h => by unfold cellV; rw [if_neg (by rw [← hq]; exact h), hr])
        clear hcl hq hr
        obtain ⟨rk, rnum, rden, rtext, ron, rcode, rrows, rcols, rA', rn, rc⟩ := r
        have HRC := Lib.hid (show ∀ W, Loc w ((tB, 33, #[.slice (some ⟨g1, 0, none⟩) n c1, .slice (some ⟨g2, 0, none⟩) m c2, v, .slice none 0 0, .slice none 0 0, .int .i64 tk, .string tnum, .string tden, .string ttx, .bool ton, .int .i64 tco, .int .i64 tro, .int .i64 tcl, .slice tA tn tc]) :: L1) W → Chg wz.heap.size [tB] wz W → Calls Tryz.prog 19 #[.slice A q c, .int .i64 how] W fun e w' => e = .returned (.agg #[.int .i64 rk, .string rnum, .string rden, .string rtext, .bool ron, .int .i64 rcode, .int .i64 rrows, .int .i64 rcols, .slice rA' rn rc]) ∧ Below W.heap.size W w' from HRC.out)
        obtain ⟨u, hu⟩ : ∃ u, u = cellV Rs RL m i := ⟨_, rfl⟩
        rw [← hu] at HC0 HC1
        have HUU := Lib.hid hu
        clear hu
        obtain ⟨l, hl⟩ : ∃ l, l = (List.range i).map (cellV Rs RL m) := ⟨_, rfl⟩
        have hll : l.length = i := by rw [hl, List.length_map, List.length_range]
        have HSN := Lib.hid (show (List.range (i + 1)).map (cellV Rs RL m) = l ++ [u] from by rw [hl, List.range_succ, List.map_append, HUU.out]; rfl)
        rw [← hl] at HL
        clear hl HUU
        go_upto_if 120 with fail
        have hbk := Blk.new wr 27 #[(.int .i64 0), (.string ⟨#[]⟩), (.string ⟨#[]⟩), (.string ⟨#[]⟩), (.bool false), (.int .i64 0), (.int .i64 0), (.int .i64 0), (.slice none 0 0)]
        have HLA := Lib.hid (HL.out.alloc (.cells #[(.int .i64 0), (.string ⟨#[]⟩), (.string ⟨#[]⟩), (.string ⟨#[]⟩), (.bool false), (.int .i64 0), (.int .i64 0), (.int .i64 0), (.slice none 0 0)] 27))
        have HWA := Lib.hid (show Below wr.heap.size wr (wr.alloc (.cells #[(.int .i64 0), (.string ⟨#[]⟩), (.string ⟨#[]⟩), (.string ⟨#[]⟩), (.bool false), (.int .i64 0), (.int .i64 0), (.int .i64 0), (.slice none 0 0)] 27)) from (Below.refl _ _).alloc (Nat.le_refl _) _)
        clear e0
        revert hbk HLA HWA
        generalize wr.alloc (.cells #[(.int .i64 0), (.string ⟨#[]⟩), (.string ⟨#[]⟩), (.string ⟨#[]⟩), (.bool false), (.int .i64 0), (.int .i64 0), (.int .i64 0), (.slice none 0 0)] 27) = W1
        intro hbk HLA HWA
        obtain ⟨z, hz⟩ : ∃ z, z = wr.heap.size := ⟨_, rfl⟩
        rw [← hz] at hbk ⊢
        have HZ := Lib.hid (Nat.le_of_eq hz.symm)
        clear hz
        have HBK := Lib.hid hbk
        clear hbk
        go_cut [] (fun wx => Hid (LS w wz wx L1 tB #[.slice (some ⟨g1, 0, none⟩) n c1, .slice (some ⟨g2, 0, none⟩) m c2, v, .slice none 0 0, .slice none 0 0, .int .i64 tk, .string tnum, .string tden, .string ttx, .bool ton, .int .i64 tco, .int .i64 tro, .int .i64 tcl, .slice tA tn tc] B v l []) ∧ Hid (Blk wx z 27 (vA u)) ∧ Hid (z < wx.heap.size))
        case first =>
          by_cases hq0 : q = 0
          · have hqz : ¬ (q : Int) > 0 := by omega
            have hu := HC0.out hq0
            clear hq0
            go_wp2_with fail
            go_meet
            exact ⟨HLA, Lib.hid (by rw [← hu]; exact HBK.out), Lib.hid HBK.out.lt⟩
          · have hqz : (q : Int) > 0 := by omega
            have hu := Lib.hid (HC1.out hq0)
            clear hq0
            have p3 : W1.cell? ⟨w.heap.size + 1, 3, none⟩ = some (.int .i64 how) := LS.ask HM.out HLA.out.loc
            go_wp2_with (go_at_call 19; (with_reducible refine (HRC.out _ HLA.out.loc HLA.out.chg).mono ?_); rintro e w2 ⟨rfl, hb⟩; have HL2 := Lib.hid (HLA.out.step hb); have HB2 := Lib.hid (HBK.out.later hb); have HW2 := Lib.hid (HWA.out.trans (hb.mono HWA.out.size)); obtain ⟨f0, f1, f2, f3, f4, f5, f6, f7, f8⟩ := HB2.out.ninef; obtain ⟨z0, z1, z2, z3, z4, z5, z6, z7, z8⟩ := HB2.out.nine; clear hb p3)
            go_meet
            have hs := (HB2.out.nine_set (.int .i64 rk) (.string rnum) (.string rden) (.string rtext) (.bool ron) (.int .i64 rcode) (.int .i64 rrows) (.int .i64 rcols) (.slice rA' rn rc)).1
            exact ⟨Lib.hid (HL.out.step (below_nine HW2.out HZ.out _ _ _ _ _ _ _ _ _)), Lib.hid (by rw [← hu.out]; exact hs), Lib.hid hs.lt⟩
        case rest =>
          clear HLA HBK HRC HC0 HC1 HWA HL HZ hq14
          obtain ⟨HLx, HBx, HZx⟩ := hcut
          rename World => wx
          obtain ⟨uk, unum, uden, utext, uon, ucode, urows, ucols, uA, un, uc⟩ := u
          have c0 : wx.cell? ⟨z, 0, none⟩ = some (.int .i64 uk) := HBx.out.cell 0
          have c1 : wx.cell? ⟨z, 1, none⟩ = some (.string unum) := HBx.out.cell 1
          have c2 : wx.cell? ⟨z, 2, none⟩ = some (.string uden) := HBx.out.cell 2
          have c3 : wx.cell? ⟨z, 3, none⟩ = some (.string utext) := HBx.out.cell 3
          have c4 : wx.cell? ⟨z, 4, none⟩ = some (.bool uon) := HBx.out.cell 4
          have c5 : wx.cell? ⟨z, 5, none⟩ = some (.int .i64 ucode) := HBx.out.cell 5
          have c6 : wx.cell? ⟨z, 6, none⟩ = some (.int .i64 urows) := HBx.out.cell 6
          have c7 : wx.cell? ⟨z, 7, none⟩ = some (.int .i64 ucols) := HBx.out.cell 7
          have c8 : wx.cell? ⟨z, 8, none⟩ = some (.slice uA un uc) := HBx.out.cell 8
          have k2 : wx.cell? ⟨tB, 2, none⟩ = some v := (HLx.out.loc.blk (g := tB) (t := 33) (List.mem_cons_self ..)).cell 2
          go_wp2_with (at_builtin; go_loud (refine wp_row1 25 27 9 112 csV _ Tryz.underlying25 val_info rfl (by decide) csV_one rfl _ _ rfl B v l rfl HLx.out.row ⟨uk, unum, uden, utext, uon, ucode, urows, ucols, uA, un, uc⟩ _ ?_ rfl (by omega) (by unfold maxLen; omega) HLx.out.base ?_); (rfl); intro v3 w3 ho hb hg; obtain ⟨gx, cx, hv, -, -⟩ := RowOf.form ho (by simp); rw [List.length_append, hll] at hv; subst hv; have HL5 := Lib.hid (LS.grown HM.out HLx.out hb ho); have r2c : w3.cell? ⟨tB, 2, none⟩ = some v := (HL5.out.loc.blk (g := tB) (t := 33) (List.mem_cons_self ..)).cell 2; have r2f := (HL5.out.loc.blk (g := tB) (t := 33) (List.mem_cons_self ..)).frozen 2; clear ho hb hg)
          go_roundw
          case rel => exact ⟨i + 1, _, by omega, by go_num, Lib.hid (by rw [HSN.out]; exact LS.put HM.out HL5.out 2 _)⟩
          case measure => simp [intOf]; omega
      · have hlz : ¬ (i : Int) < (NM : Int) := by omega
        obtain rfl : NM = i := by omega
        obtain ⟨A3, c3, hv⟩ := (RowOf.reads HL.out.row csV_len).shape
        rw [List.length_map, List.length_range] at hv
        subst hv
        have HL9 := Lib.hid HL.out.next
        go_wp2_with fail
        go_meet
        exact ⟨A3, c3, HL9⟩
  case rest =>
    clear HL hnm
    obtain ⟨A3, c3, HL⟩ := hcut
    obtain rfl := HNM.out
    go_step
    exact make24 HM HTT HL
end Go.Proofs.YtmapagbmihpbmaaGreatDoor
