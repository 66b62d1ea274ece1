/- Three records are put at the ends of three rows, in any order of the steps: the walk. -/
import Derived.Test.YtmapagbmihpbmaaGreatDoorPvU1
import Derived.Test.YtmapagbmihpbmaaGreatDoorGt
set_option linter.unusedSimpArgs false
set_option linter.unusedVariables false
namespace Go.Proofs.YtmapagbmihpbmaaGreatDoor
open Go.RowKit

structure Cx where
  w : World
  L : List (Nat × TypeId × Array Value)
  B : Nat
  M : Nat
  g1 : Nat
  nm : Nat
  g2 : Nat
  n : Nat
  g3 : Nat
  m : Nat
  Ha : Nat → SV
  Hb : Nat → SV
  Hc : Nat → SV
  p : Nat
  r : Rm
  x1 : Nat
  x2 : Nat
  x3 : Nat
  H0 : Nat → SV
  F0 : Nat → List Rm
def Cx.BS (c : Cx) (W : World) (H : Nat → SV) (F : Nat → List Rm) : Prop := Go.Proofs.YtmapagbmihpbmaaGreatDoor.BS c.w W c.L c.B c.M c.g1 c.nm c.g2 c.n c.g3 c.m H F c.Ha c.Hb c.Hc
def Cx.H (c : Cx) : Nat → SV → SV → SV → Nat → SV
  | 0, _, _, _ => c.H0
  | 1, v1, _, _ => up c.H0 c.x1 v1
  | 2, v1, v2, _ => up (up c.H0 c.x1 v1) c.x2 v2
  | _, v1, v2, v3 => up (up (up c.H0 c.x1 v1) c.x2 v2) c.x3 v3
def Cx.F (c : Cx) : Nat → Nat → List Rm
  | 0 => c.F0
  | 1 => up c.F0 c.x1 (c.F0 c.x1 ++ [c.r])
  | 2 => up (up c.F0 c.x1 (c.F0 c.x1 ++ [c.r])) c.x2 (c.F0 c.x2 ++ [c.r])
  | _ => up (up (up c.F0 c.x1 (c.F0 c.x1 ++ [c.r])) c.x2 (c.F0 c.x2 ++ [c.r])) c.x3 (c.F0 c.x3 ++ [c.r])
structure Cx.Ok (c : Cx) (a0 : Act) : Prop where
  l1 : c.x1 < c.M
  l2 : c.x2 < c.M
  l3 : c.x3 < c.M
  n12 : c.x2 ≠ c.x1
  n13 : c.x3 ≠ c.x1
  n23 : c.x3 ≠ c.x2
  len : ∀ x, (c.F0 x).length ≤ 1000
  size : 107 < a0.tmps.size
  e88 : a0.eval (.tmp 88) = sv3 (c.H0 c.x1)
  e96 : a0.eval (.tmp 96) = sv3 (c.H0 c.x2)
  e104 : a0.eval (.tmp 104) = sv3 (c.H0 c.x3)
  e89 : a0.eval (.tmp 89) = .agg (rA c.r)
  e97 : a0.eval (.tmp 97) = .agg (rA c.r)
  e105 : a0.eval (.tmp 105) = .agg (rA c.r)
structure St (c : Cx) (a0 : Act) (l : Nat) (m1 m2 m3 : Bool) (v1 v2 v3 : SV) (b1 b2 b3 : Nat) (a : Act) (W : World) : Prop where
  agr : Agr a0 a
  bs : c.BS W (c.H l v1 v2 v3) (c.F l)
  p : Ap W c.B c.M (c.H l v1 v2 v3) (rA c.r) c.p
  m1 : m1 = true → a.tmps.getD 90 undef = .slice (some ⟨b1, 0, none⟩) 1 1 ∧ Ap W c.B c.M (c.H l v1 v2 v3) (rA c.r) b1
  m2 : m2 = true → a.tmps.getD 98 undef = .slice (some ⟨b2, 0, none⟩) 1 1 ∧ Ap W c.B c.M (c.H l v1 v2 v3) (rA c.r) b2
  m3 : m3 = true → a.tmps.getD 106 undef = .slice (some ⟨b3, 0, none⟩) 1 1 ∧ Ap W c.B c.M (c.H l v1 v2 v3) (rA c.r) b3
  t1 : 1 ≤ l → a.tmps.getD 91 undef = sv3 v1
  t2 : 2 ≤ l → a.tmps.getD 99 undef = sv3 v2
  t3 : 3 ≤ l → a.tmps.getD 107 undef = sv3 v3
theorem Agr.at {a0 a : Act} (h : Agr a0 a) (k : Nat) (hk : k ≠ 90 ∧ k ≠ 91 ∧ k ≠ 98 ∧ k ≠ 99 ∧ k ≠ 106 ∧ k ≠ 107) : a.eval (.tmp k) = a0.eval (.tmp k) := h.rest k hk.1 hk.2.1 hk.2.2.1 hk.2.2.2.1 hk.2.2.2.2.1 hk.2.2.2.2.2
section
variable {c : Cx} {a0 a : Act} {W : World} {l : Nat} {m1 m2 m3 : Bool} {v1 v2 v3 : SV} {b1 b2 b3 : Nat} (hc : c.Ok a0)
theorem below_new (W : World) (o : Obj) : Below W.heap.size W (W.alloc o) := (Below.refl _ _).alloc (Nat.le_refl _) _
include hc
theorem St.mk1 (h : St c a0 l false m2 m3 v1 v2 v3 b1 b2 b3 a W) : St c a0 l true m2 m3 v1 v2 v3 W.heap.size b2 b3 (a.put (some 90) (.slice (some ⟨W.heap.size, 0, none⟩) 1 1)) (W.alloc (.cells (rA c.r) 61)) :=
  ⟨h.agr.put 90 (by decide) _, h.bs.alloc _, h.p.later (below_new _ _), fun _ => ⟨put_same _ _ _ (by rw [h.agr.size]; have := hc.size; omega), Ap.new h.bs.bag h.bs.base⟩, fun e => ⟨by rw [put_ne _ _ _ _ (by decide)]; exact (h.m2 e).1, (h.m2 e).2.later (below_new _ _)⟩, fun e => ⟨by rw [put_ne _ _ _ _ (by decide)]; exact (h.m3 e).1, (h.m3 e).2.later (below_new _ _)⟩, fun e => by rw [put_ne _ _ _ _ (by decide)]; exact h.t1 e, fun e => by rw [put_ne _ _ _ _ (by decide)]; exact h.t2 e, fun e => by rw [put_ne _ _ _ _ (by decide)]; exact h.t3 e⟩
theorem St.mk2 (h : St c a0 l m1 false m3 v1 v2 v3 b1 b2 b3 a W) : St c a0 l m1 true m3 v1 v2 v3 b1 W.heap.size b3 (a.put (some 98) (.slice (some ⟨W.heap.size, 0, none⟩) 1 1)) (W.alloc (.cells (rA c.r) 61)) :=
  ⟨h.agr.put 98 (by decide) _, h.bs.alloc _, h.p.later (below_new _ _), fun e => ⟨by rw [put_ne _ _ _ _ (by decide)]; exact (h.m1 e).1, (h.m1 e).2.later (below_new _ _)⟩, fun _ => ⟨put_same _ _ _ (by rw [h.agr.size]; have := hc.size; omega), Ap.new h.bs.bag h.bs.base⟩, fun e => ⟨by rw [put_ne _ _ _ _ (by decide)]; exact (h.m3 e).1, (h.m3 e).2.later (below_new _ _)⟩, fun e => by rw [put_ne _ _ _ _ (by decide)]; exact h.t1 e, fun e => by rw [put_ne _ _ _ _ (by decide)]; exact h.t2 e, fun e => by rw [put_ne _ _ _ _ (by decide)]; exact h.t3 e⟩
theorem St.mk3 (h : St c a0 l m1 m2 false v1 v2 v3 b1 b2 b3 a W) : St c a0 l m1 m2 true v1 v2 v3 b1 b2 W.heap.size (a.put (some 106) (.slice (some ⟨W.heap.size, 0, none⟩) 1 1)) (W.alloc (.cells (rA c.r) 61)) :=
  ⟨h.agr.put 106 (by decide) _, h.bs.alloc _, h.p.later (below_new _ _), fun e => ⟨by rw [put_ne _ _ _ _ (by decide)]; exact (h.m1 e).1, (h.m1 e).2.later (below_new _ _)⟩, fun e => ⟨by rw [put_ne _ _ _ _ (by decide)]; exact (h.m2 e).1, (h.m2 e).2.later (below_new _ _)⟩, fun _ => ⟨put_same _ _ _ (by rw [h.agr.size]; have := hc.size; omega), Ap.new h.bs.bag h.bs.base⟩, fun e => by rw [put_ne _ _ _ _ (by decide)]; exact h.t1 e, fun e => by rw [put_ne _ _ _ _ (by decide)]; exact h.t2 e, fun e => by rw [put_ne _ _ _ _ (by decide)]; exact h.t3 e⟩
theorem St.ap1 {W' : World} {v : SV} (h : St c a0 0 m1 m2 m3 v1 v2 v3 b1 b2 b3 a W) (h1 : RO W' c.B (sv3 v) (c.F0 c.x1 ++ [c.r])) (h0 : Below c.B W W') (h2 : W.grownBy W' (sv3 (c.H 0 v1 v2 v3 c.x1)).ownBlock) (h3 : (sv3 v).ownBlock = (sv3 (c.H 0 v1 v2 v3 c.x1)).ownBlock ∨ (sv3 v).ownBlock = some W.heap.size) : St c a0 1 m1 m2 m3 v v2 v3 b1 b2 b3 (a.put (some 91) (sv3 v)) W' :=
  ⟨h.agr.put 91 (by decide) _, Go.Proofs.YtmapagbmihpbmaaGreatDoor.BS.app h.bs hc.l1 h1 h0 h2 h3, h.p.app hc.l1 h2 h3, fun e => ⟨by rw [put_ne _ _ _ _ (by decide)]; exact (h.m1 e).1, (h.m1 e).2.app hc.l1 h2 h3⟩, fun e => ⟨by rw [put_ne _ _ _ _ (by decide)]; exact (h.m2 e).1, (h.m2 e).2.app hc.l1 h2 h3⟩, fun e => ⟨by rw [put_ne _ _ _ _ (by decide)]; exact (h.m3 e).1, (h.m3 e).2.app hc.l1 h2 h3⟩, fun _ => put_same _ _ _ (by rw [h.agr.size]; have := hc.size; omega), fun e => absurd e (by decide), fun e => absurd e (by decide)⟩
theorem St.ap2 {W' : World} {v : SV} (h : St c a0 1 m1 m2 m3 v1 v2 v3 b1 b2 b3 a W) (h1 : RO W' c.B (sv3 v) (c.F0 c.x2 ++ [c.r])) (h0 : Below c.B W W') (h2 : W.grownBy W' (sv3 (c.H 1 v1 v2 v3 c.x2)).ownBlock) (h3 : (sv3 v).ownBlock = (sv3 (c.H 1 v1 v2 v3 c.x2)).ownBlock ∨ (sv3 v).ownBlock = some W.heap.size) : St c a0 2 m1 m2 m3 v1 v v3 b1 b2 b3 (a.put (some 99) (sv3 v)) W' :=
  ⟨h.agr.put 99 (by decide) _, Go.Proofs.YtmapagbmihpbmaaGreatDoor.BS.app h.bs hc.l2 h1 h0 h2 h3, h.p.app hc.l2 h2 h3, fun e => ⟨by rw [put_ne _ _ _ _ (by decide)]; exact (h.m1 e).1, (h.m1 e).2.app hc.l2 h2 h3⟩, fun e => ⟨by rw [put_ne _ _ _ _ (by decide)]; exact (h.m2 e).1, (h.m2 e).2.app hc.l2 h2 h3⟩, fun e => ⟨by rw [put_ne _ _ _ _ (by decide)]; exact (h.m3 e).1, (h.m3 e).2.app hc.l2 h2 h3⟩, fun _ => by rw [put_ne _ _ _ _ (by decide)]; exact h.t1 (by decide), fun _ => put_same _ _ _ (by rw [h.agr.size]; have := hc.size; omega), fun e => absurd e (by decide)⟩
theorem St.ap3 {W' : World} {v : SV} (h : St c a0 2 m1 m2 m3 v1 v2 v3 b1 b2 b3 a W) (h1 : RO W' c.B (sv3 v) (c.F0 c.x3 ++ [c.r])) (h0 : Below c.B W W') (h2 : W.grownBy W' (sv3 (c.H 2 v1 v2 v3 c.x3)).ownBlock) (h3 : (sv3 v).ownBlock = (sv3 (c.H 2 v1 v2 v3 c.x3)).ownBlock ∨ (sv3 v).ownBlock = some W.heap.size) : St c a0 3 m1 m2 m3 v1 v2 v b1 b2 b3 (a.put (some 107) (sv3 v)) W' :=
  ⟨h.agr.put 107 (by decide) _, Go.Proofs.YtmapagbmihpbmaaGreatDoor.BS.app h.bs hc.l3 h1 h0 h2 h3, h.p.app hc.l3 h2 h3, fun e => ⟨by rw [put_ne _ _ _ _ (by decide)]; exact (h.m1 e).1, (h.m1 e).2.app hc.l3 h2 h3⟩, fun e => ⟨by rw [put_ne _ _ _ _ (by decide)]; exact (h.m2 e).1, (h.m2 e).2.app hc.l3 h2 h3⟩, fun e => ⟨by rw [put_ne _ _ _ _ (by decide)]; exact (h.m3 e).1, (h.m3 e).2.app hc.l3 h2 h3⟩, fun _ => by rw [put_ne _ _ _ _ (by decide)]; exact h.t1 (by decide), fun _ => by rw [put_ne _ _ _ _ (by decide)]; exact h.t2 (by decide), fun _ => put_same _ _ _ (by rw [h.agr.size]; have := hc.size; omega)⟩
end
/-- Which numbers have come up. -/
def Lst (l : Nat) (m1 m2 m3 : Bool) : Array Bool := #[true, true, true, true, true, true, true, true, true, true, true, true, true, m1, decide (1 ≤ l), true, true, true, true, true, true, m2, decide (2 ≤ l), true, true, true, true, true, true, m3, decide (3 ≤ l), false, false, false, false, false, false]
structure IsB (ops : Array Oper) (i src dst : Nat) : Prop where
  ex : ∃ o, ops[i]? = some o ∧ o.op = .buildSlice 54 1 #[(0, .tmp src)] ∧ o.dst = some dst ∧ o.guard = none
structure IsA (ops : Array Oper) (i hdr one dst : Nat) : Prop where
  ex : ∃ o, ops[i]? = some o ∧ o.op = .call { callee := .builtin .append, args := #[.tmp hdr, .tmp one], argTypes := #[54, 54] } ∧ o.dst = some dst ∧ o.guard = none
def rdyOk (ops : Array Oper) : Bool := (Region.ready .any ops (Lst 2 true true true) == [30]) && (Region.ready .any ops (Lst 1 true true true) == [22]) && (Region.ready .any ops (Lst 2 true true false) == [29]) && (Region.ready .any ops (Lst 0 true true true) == [14]) && (Region.ready .any ops (Lst 1 true true false) == [22, 29]) && (Region.ready .any ops (Lst 1 true false true) == [21]) && (Region.ready .any ops (Lst 0 true true false) == [14, 29]) && (Region.ready .any ops (Lst 0 true false true) == [14, 21]) && (Region.ready .any ops (Lst 0 false true true) == [13]) && (Region.ready .any ops (Lst 1 true false false) == [21, 29]) && (Region.ready .any ops (Lst 0 true false false) == [14, 21, 29]) && (Region.ready .any ops (Lst 0 false true false) == [13, 29]) && (Region.ready .any ops (Lst 0 false false true) == [13, 21]) && (Region.ready .any ops (Lst 0 false false false) == [13, 21, 29])
set_option maxHeartbeats 4000000 in
theorem app3 {ops : Array Oper} {Q : Exit → Act → World → Prop} {S1 S2 : World → Prop} {c : Cx} {a0 : Act} {W : World} (hc : c.Ok a0) (hrd : rdyOk ops = true)
    (i13 : IsB ops 13 89 90) (i21 : IsB ops 21 97 98) (i29 : IsB ops 29 105 106) (i14 : IsA ops 14 88 90 91) (i22 : IsA ops 22 96 98 99) (i30 : IsA ops 30 104 106 107)
    (hS : ∀ W H F, c.BS W H F → Ap W c.B c.M H (rA c.r) c.p → S1 W ∧ S2 W)
    (hst : c.BS W c.H0 c.F0) (hp : Ap W c.B c.M c.H0 (rA c.r) c.p)
    (hfin : ∀ W' v1 v2 v3 b1 b2 b3 a, St c a0 3 true true true v1 v2 v3 b1 b2 b3 a W' → wpAnyG Tryz.prog .any ops Q S1 S2 32 6 (Lst 3 true true true) a W') :
    wpAnyG Tryz.prog .any ops Q S1 S2 32 12 (Lst 0 false false false) a0 W := by
  unfold rdyOk at hrd
  simp only [Bool.and_eq_true, beq_iff_eq] at hrd
  obtain ⟨⟨⟨⟨⟨⟨⟨⟨⟨⟨⟨⟨⟨rJ2ttt, rJ1ttt⟩, rJ2ttf⟩, rJ0ttt⟩, rJ1ttf⟩, rJ1tft⟩, rJ0ttf⟩, rJ0tft⟩, rJ0ftt⟩, rJ1tff⟩, rJ0tff⟩, rJ0ftf⟩, rJ0fft⟩, rJ0fff⟩ := hrd
  obtain ⟨o13, p13, q13, d13, g13⟩ := i13.ex
  obtain ⟨o21, p21, q21, d21, g21⟩ := i21.ex
  obtain ⟨o29, p29, q29, d29, g29⟩ := i29.ex
  obtain ⟨o14, p14, q14, d14, g14⟩ := i14.ex
  obtain ⟨o22, p22, q22, d22, g22⟩ := i22.ex
  obtain ⟨o30, p30, q30, d30, g30⟩ := i30.ex
  have J3ttt := hfin
  have J2ttt : ∀ W v1 v2 v3 b1 b2 b3 a, St c a0 2 true true true v1 v2 v3 b1 b2 b3 a W → wpAnyG Tryz.prog .any ops Q S1 S2 32 7 (Lst 2 true true true) a W := fun W v1 v2 v3 b1 b2 b3 a h => by
    refine wpAnyG_ready rJ2ttt (by simp) ?_
    refine AllG.cons p30 (fun K hK => ?_) ?_
    · have hH : c.H 2 v1 v2 v3 c.x3 = c.H0 c.x3 := ((up_ne _ _ _ _ hc.n23).trans (up_ne _ _ _ _ hc.n13))
      have hF : c.F 2 c.x3 = c.F0 c.x3 := ((up_ne _ _ _ _ hc.n23).trans (up_ne _ _ _ _ hc.n13))
      have hr := h.bs.bag.row c.x3 hc.l3
      rw [hF] at hr
      have hl := hc.len c.x3
      refine step_row2 54 61 12 136 rmC _ Tryz.underlying54 rec_info rfl (by decide) rm_one g30 (.tmp 104) (.tmp 106) q30 c.B (sv3 (c.H 2 v1 v2 v3 c.x3)) (c.F0 c.x3) (by rw [h.agr.at 104 (by decide), hc.e104, hH]) hr c.r b3 (rA c.r) rfl (h.m3 rfl).2.blk (h.m3 rfl).1 (by omega) (by unfold maxLen; omega) h.bs.base ?_
      intro g cap w' ho hb hg hx
      rw [d30]
      have h2 := St.ap3 (v := (some ⟨g, 0, none⟩, (c.F0 c.x3).length + 1, cap)) hc h ho hb hg (hx.imp (fun e => e.symm) (fun e => by rw [← e]; rfl))
      have h3 := hS _ _ _ h2.bs h2.p
      exact hK.out _ _ ⟨h3.1, .inr h3.2⟩ (fun _ => J3ttt _ _ _ _ _ _ _ _ h2)
    exact AllG.nil
  have J1ttt : ∀ W v1 v2 v3 b1 b2 b3 a, St c a0 1 true true true v1 v2 v3 b1 b2 b3 a W → wpAnyG Tryz.prog .any ops Q S1 S2 32 8 (Lst 1 true true true) a W := fun W v1 v2 v3 b1 b2 b3 a h => by
    refine wpAnyG_ready rJ1ttt (by simp) ?_
    refine AllG.cons p22 (fun K hK => ?_) ?_
    · have hH : c.H 1 v1 v2 v3 c.x2 = c.H0 c.x2 := (up_ne _ _ _ _ hc.n12)
      have hF : c.F 1 c.x2 = c.F0 c.x2 := (up_ne _ _ _ _ hc.n12)
      have hr := h.bs.bag.row c.x2 hc.l2
      rw [hF] at hr
      have hl := hc.len c.x2
      refine step_row2 54 61 12 136 rmC _ Tryz.underlying54 rec_info rfl (by decide) rm_one g22 (.tmp 96) (.tmp 98) q22 c.B (sv3 (c.H 1 v1 v2 v3 c.x2)) (c.F0 c.x2) (by rw [h.agr.at 96 (by decide), hc.e96, hH]) hr c.r b2 (rA c.r) rfl (h.m2 rfl).2.blk (h.m2 rfl).1 (by omega) (by unfold maxLen; omega) h.bs.base ?_
      intro g cap w' ho hb hg hx
      rw [d22]
      have h2 := St.ap2 (v := (some ⟨g, 0, none⟩, (c.F0 c.x2).length + 1, cap)) hc h ho hb hg (hx.imp (fun e => e.symm) (fun e => by rw [← e]; rfl))
      have h3 := hS _ _ _ h2.bs h2.p
      exact hK.out _ _ ⟨h3.1, .inr h3.2⟩ (fun _ => J2ttt _ _ _ _ _ _ _ _ h2)
    exact AllG.nil
  have J2ttf : ∀ W v1 v2 v3 b1 b2 b3 a, St c a0 2 true true false v1 v2 v3 b1 b2 b3 a W → wpAnyG Tryz.prog .any ops Q S1 S2 32 8 (Lst 2 true true false) a W := fun W v1 v2 v3 b1 b2 b3 a h => by
    refine wpAnyG_ready rJ2ttf (by simp) ?_
    refine AllG.cons p29 (fun K hK => ?_) ?_
    · refine step_b g29 q29 c.r ((h.agr.at 105 (by decide)).trans hc.e105) ?_
      rw [d29]
      have h2 := St.mk3 hc h
      have h3 := hS _ _ _ h2.bs h2.p
      exact hK.out _ _ ⟨h3.1, .inr h3.2⟩ (fun _ => J2ttt _ _ _ _ _ _ _ _ h2)
    exact AllG.nil
  have J0ttt : ∀ W v1 v2 v3 b1 b2 b3 a, St c a0 0 true true true v1 v2 v3 b1 b2 b3 a W → wpAnyG Tryz.prog .any ops Q S1 S2 32 9 (Lst 0 true true true) a W := fun W v1 v2 v3 b1 b2 b3 a h => by
    refine wpAnyG_ready rJ0ttt (by simp) ?_
    refine AllG.cons p14 (fun K hK => ?_) ?_
    · have hH : c.H 0 v1 v2 v3 c.x1 = c.H0 c.x1 := rfl
      have hF : c.F 0 c.x1 = c.F0 c.x1 := rfl
      have hr := h.bs.bag.row c.x1 hc.l1
      rw [hF] at hr
      have hl := hc.len c.x1
      refine step_row2 54 61 12 136 rmC _ Tryz.underlying54 rec_info rfl (by decide) rm_one g14 (.tmp 88) (.tmp 90) q14 c.B (sv3 (c.H 0 v1 v2 v3 c.x1)) (c.F0 c.x1) (by rw [h.agr.at 88 (by decide), hc.e88, hH]) hr c.r b1 (rA c.r) rfl (h.m1 rfl).2.blk (h.m1 rfl).1 (by omega) (by unfold maxLen; omega) h.bs.base ?_
      intro g cap w' ho hb hg hx
      rw [d14]
      have h2 := St.ap1 (v := (some ⟨g, 0, none⟩, (c.F0 c.x1).length + 1, cap)) hc h ho hb hg (hx.imp (fun e => e.symm) (fun e => by rw [← e]; rfl))
      have h3 := hS _ _ _ h2.bs h2.p
      exact hK.out _ _ ⟨h3.1, .inr h3.2⟩ (fun _ => J1ttt _ _ _ _ _ _ _ _ h2)
    exact AllG.nil
  have J1ttf : ∀ W v1 v2 v3 b1 b2 b3 a, St c a0 1 true true false v1 v2 v3 b1 b2 b3 a W → wpAnyG Tryz.prog .any ops Q S1 S2 32 9 (Lst 1 true true false) a W := fun W v1 v2 v3 b1 b2 b3 a h => by
    refine wpAnyG_ready rJ1ttf (by simp) ?_
    refine AllG.cons p22 (fun K hK => ?_) ?_
    · have hH : c.H 1 v1 v2 v3 c.x2 = c.H0 c.x2 := (up_ne _ _ _ _ hc.n12)
      have hF : c.F 1 c.x2 = c.F0 c.x2 := (up_ne _ _ _ _ hc.n12)
      have hr := h.bs.bag.row c.x2 hc.l2
      rw [hF] at hr
      have hl := hc.len c.x2
      refine step_row2 54 61 12 136 rmC _ Tryz.underlying54 rec_info rfl (by decide) rm_one g22 (.tmp 96) (.tmp 98) q22 c.B (sv3 (c.H 1 v1 v2 v3 c.x2)) (c.F0 c.x2) (by rw [h.agr.at 96 (by decide), hc.e96, hH]) hr c.r b2 (rA c.r) rfl (h.m2 rfl).2.blk (h.m2 rfl).1 (by omega) (by unfold maxLen; omega) h.bs.base ?_
      intro g cap w' ho hb hg hx
      rw [d22]
      have h2 := St.ap2 (v := (some ⟨g, 0, none⟩, (c.F0 c.x2).length + 1, cap)) hc h ho hb hg (hx.imp (fun e => e.symm) (fun e => by rw [← e]; rfl))
      have h3 := hS _ _ _ h2.bs h2.p
      exact hK.out _ _ ⟨h3.1, .inr h3.2⟩ (fun _ => J2ttf _ _ _ _ _ _ _ _ h2)
    refine AllG.cons p29 (fun K hK => ?_) ?_
    · refine step_b g29 q29 c.r ((h.agr.at 105 (by decide)).trans hc.e105) ?_
      rw [d29]
      have h2 := St.mk3 hc h
      have h3 := hS _ _ _ h2.bs h2.p
      exact hK.out _ _ ⟨h3.1, .inr h3.2⟩ (fun _ => J1ttt _ _ _ _ _ _ _ _ h2)
    exact AllG.nil
  have J1tft : ∀ W v1 v2 v3 b1 b2 b3 a, St c a0 1 true false true v1 v2 v3 b1 b2 b3 a W → wpAnyG Tryz.prog .any ops Q S1 S2 32 9 (Lst 1 true false true) a W := fun W v1 v2 v3 b1 b2 b3 a h => by
    refine wpAnyG_ready rJ1tft (by simp) ?_
    refine AllG.cons p21 (fun K hK => ?_) ?_
    · refine step_b g21 q21 c.r ((h.agr.at 97 (by decide)).trans hc.e97) ?_
      rw [d21]
      have h2 := St.mk2 hc h
      have h3 := hS _ _ _ h2.bs h2.p
      exact hK.out _ _ ⟨h3.1, .inr h3.2⟩ (fun _ => J1ttt _ _ _ _ _ _ _ _ h2)
    exact AllG.nil
  have J0ttf : ∀ W v1 v2 v3 b1 b2 b3 a, St c a0 0 true true false v1 v2 v3 b1 b2 b3 a W → wpAnyG Tryz.prog .any ops Q S1 S2 32 10 (Lst 0 true true false) a W := fun W v1 v2 v3 b1 b2 b3 a h => by
    refine wpAnyG_ready rJ0ttf (by simp) ?_
    refine AllG.cons p14 (fun K hK => ?_) ?_
    · have hH : c.H 0 v1 v2 v3 c.x1 = c.H0 c.x1 := rfl
      have hF : c.F 0 c.x1 = c.F0 c.x1 := rfl
      have hr := h.bs.bag.row c.x1 hc.l1
      rw [hF] at hr
      have hl := hc.len c.x1
      refine step_row2 54 61 12 136 rmC _ Tryz.underlying54 rec_info rfl (by decide) rm_one g14 (.tmp 88) (.tmp 90) q14 c.B (sv3 (c.H 0 v1 v2 v3 c.x1)) (c.F0 c.x1) (by rw [h.agr.at 88 (by decide), hc.e88, hH]) hr c.r b1 (rA c.r) rfl (h.m1 rfl).2.blk (h.m1 rfl).1 (by omega) (by unfold maxLen; omega) h.bs.base ?_
      intro g cap w' ho hb hg hx
      rw [d14]
      have h2 := St.ap1 (v := (some ⟨g, 0, none⟩, (c.F0 c.x1).length + 1, cap)) hc h ho hb hg (hx.imp (fun e => e.symm) (fun e => by rw [← e]; rfl))
      have h3 := hS _ _ _ h2.bs h2.p
      exact hK.out _ _ ⟨h3.1, .inr h3.2⟩ (fun _ => J1ttf _ _ _ _ _ _ _ _ h2)
    refine AllG.cons p29 (fun K hK => ?_) ?_
    · refine step_b g29 q29 c.r ((h.agr.at 105 (by decide)).trans hc.e105) ?_
      rw [d29]
      have h2 := St.mk3 hc h
      have h3 := hS _ _ _ h2.bs h2.p
      exact hK.out _ _ ⟨h3.1, .inr h3.2⟩ (fun _ => J0ttt _ _ _ _ _ _ _ _ h2)
    exact AllG.nil
  have J0tft : ∀ W v1 v2 v3 b1 b2 b3 a, St c a0 0 true false true v1 v2 v3 b1 b2 b3 a W → wpAnyG Tryz.prog .any ops Q S1 S2 32 10 (Lst 0 true false true) a W := fun W v1 v2 v3 b1 b2 b3 a h => by
    refine wpAnyG_ready rJ0tft (by simp) ?_
    refine AllG.cons p14 (fun K hK => ?_) ?_
    · have hH : c.H 0 v1 v2 v3 c.x1 = c.H0 c.x1 := rfl
      have hF : c.F 0 c.x1 = c.F0 c.x1 := rfl
      have hr := h.bs.bag.row c.x1 hc.l1
      rw [hF] at hr
      have hl := hc.len c.x1
      refine step_row2 54 61 12 136 rmC _ Tryz.underlying54 rec_info rfl (by decide) rm_one g14 (.tmp 88) (.tmp 90) q14 c.B (sv3 (c.H 0 v1 v2 v3 c.x1)) (c.F0 c.x1) (by rw [h.agr.at 88 (by decide), hc.e88, hH]) hr c.r b1 (rA c.r) rfl (h.m1 rfl).2.blk (h.m1 rfl).1 (by omega) (by unfold maxLen; omega) h.bs.base ?_
      intro g cap w' ho hb hg hx
      rw [d14]
      have h2 := St.ap1 (v := (some ⟨g, 0, none⟩, (c.F0 c.x1).length + 1, cap)) hc h ho hb hg (hx.imp (fun e => e.symm) (fun e => by rw [← e]; rfl))
      have h3 := hS _ _ _ h2.bs h2.p
      exact hK.out _ _ ⟨h3.1, .inr h3.2⟩ (fun _ => J1tft _ _ _ _ _ _ _ _ h2)
    refine AllG.cons p21 (fun K hK => ?_) ?_
    · refine step_b g21 q21 c.r ((h.agr.at 97 (by decide)).trans hc.e97) ?_
      rw [d21]
      have h2 := St.mk2 hc h
      have h3 := hS _ _ _ h2.bs h2.p
      exact hK.out _ _ ⟨h3.1, .inr h3.2⟩ (fun _ => J0ttt _ _ _ _ _ _ _ _ h2)
    exact AllG.nil
  have J0ftt : ∀ W v1 v2 v3 b1 b2 b3 a, St c a0 0 false true true v1 v2 v3 b1 b2 b3 a W → wpAnyG Tryz.prog .any ops Q S1 S2 32 10 (Lst 0 false true true) a W := fun W v1 v2 v3 b1 b2 b3 a h => by
    refine wpAnyG_ready rJ0ftt (by simp) ?_
    refine AllG.cons p13 (fun K hK => ?_) ?_
    · refine step_b g13 q13 c.r ((h.agr.at 89 (by decide)).trans hc.e89) ?_
      rw [d13]
      have h2 := St.mk1 hc h
      have h3 := hS _ _ _ h2.bs h2.p
      exact hK.out _ _ ⟨h3.1, .inr h3.2⟩ (fun _ => J0ttt _ _ _ _ _ _ _ _ h2)
    exact AllG.nil
  have J1tff : ∀ W v1 v2 v3 b1 b2 b3 a, St c a0 1 true false false v1 v2 v3 b1 b2 b3 a W → wpAnyG Tryz.prog .any ops Q S1 S2 32 10 (Lst 1 true false false) a W := fun W v1 v2 v3 b1 b2 b3 a h => by
    refine wpAnyG_ready rJ1tff (by simp) ?_
    refine AllG.cons p21 (fun K hK => ?_) ?_
    · refine step_b g21 q21 c.r ((h.agr.at 97 (by decide)).trans hc.e97) ?_
      rw [d21]
      have h2 := St.mk2 hc h
      have h3 := hS _ _ _ h2.bs h2.p
      exact hK.out _ _ ⟨h3.1, .inr h3.2⟩ (fun _ => J1ttf _ _ _ _ _ _ _ _ h2)
    refine AllG.cons p29 (fun K hK => ?_) ?_
    · refine step_b g29 q29 c.r ((h.agr.at 105 (by decide)).trans hc.e105) ?_
      rw [d29]
      have h2 := St.mk3 hc h
      have h3 := hS _ _ _ h2.bs h2.p
      exact hK.out _ _ ⟨h3.1, .inr h3.2⟩ (fun _ => J1tft _ _ _ _ _ _ _ _ h2)
    exact AllG.nil
  have J0tff : ∀ W v1 v2 v3 b1 b2 b3 a, St c a0 0 true false false v1 v2 v3 b1 b2 b3 a W → wpAnyG Tryz.prog .any ops Q S1 S2 32 11 (Lst 0 true false false) a W := fun W v1 v2 v3 b1 b2 b3 a h => by
    refine wpAnyG_ready rJ0tff (by simp) ?_
    refine AllG.cons p14 (fun K hK => ?_) ?_
    · have hH : c.H 0 v1 v2 v3 c.x1 = c.H0 c.x1 := rfl
      have hF : c.F 0 c.x1 = c.F0 c.x1 := rfl
      have hr := h.bs.bag.row c.x1 hc.l1
      rw [hF] at hr
      have hl := hc.len c.x1
      refine step_row2 54 61 12 136 rmC _ Tryz.underlying54 rec_info rfl (by decide) rm_one g14 (.tmp 88) (.tmp 90) q14 c.B (sv3 (c.H 0 v1 v2 v3 c.x1)) (c.F0 c.x1) (by rw [h.agr.at 88 (by decide), hc.e88, hH]) hr c.r b1 (rA c.r) rfl (h.m1 rfl).2.blk (h.m1 rfl).1 (by omega) (by unfold maxLen; omega) h.bs.base ?_
      intro g cap w' ho hb hg hx
      rw [d14]
      have h2 := St.ap1 (v := (some ⟨g, 0, none⟩, (c.F0 c.x1).length + 1, cap)) hc h ho hb hg (hx.imp (fun e => e.symm) (fun e => by rw [← e]; rfl))
      have h3 := hS _ _ _ h2.bs h2.p
      exact hK.out _ _ ⟨h3.1, .inr h3.2⟩ (fun _ => J1tff _ _ _ _ _ _ _ _ h2)
    refine AllG.cons p21 (fun K hK => ?_) ?_
    · refine step_b g21 q21 c.r ((h.agr.at 97 (by decide)).trans hc.e97) ?_
      rw [d21]
      have h2 := St.mk2 hc h
      have h3 := hS _ _ _ h2.bs h2.p
      exact hK.out _ _ ⟨h3.1, .inr h3.2⟩ (fun _ => J0ttf _ _ _ _ _ _ _ _ h2)
    refine AllG.cons p29 (fun K hK => ?_) ?_
    · refine step_b g29 q29 c.r ((h.agr.at 105 (by decide)).trans hc.e105) ?_
      rw [d29]
      have h2 := St.mk3 hc h
      have h3 := hS _ _ _ h2.bs h2.p
      exact hK.out _ _ ⟨h3.1, .inr h3.2⟩ (fun _ => J0tft _ _ _ _ _ _ _ _ h2)
    exact AllG.nil
  have J0ftf : ∀ W v1 v2 v3 b1 b2 b3 a, St c a0 0 false true false v1 v2 v3 b1 b2 b3 a W → wpAnyG Tryz.prog .any ops Q S1 S2 32 11 (Lst 0 false true false) a W := fun W v1 v2 v3 b1 b2 b3 a h => by
    refine wpAnyG_ready rJ0ftf (by simp) ?_
    refine AllG.cons p13 (fun K hK => ?_) ?_
    · refine step_b g13 q13 c.r ((h.agr.at 89 (by decide)).trans hc.e89) ?_
      rw [d13]
      have h2 := St.mk1 hc h
      have h3 := hS _ _ _ h2.bs h2.p
      exact hK.out _ _ ⟨h3.1, .inr h3.2⟩ (fun _ => J0ttf _ _ _ _ _ _ _ _ h2)
    refine AllG.cons p29 (fun K hK => ?_) ?_
    · refine step_b g29 q29 c.r ((h.agr.at 105 (by decide)).trans hc.e105) ?_
      rw [d29]
      have h2 := St.mk3 hc h
      have h3 := hS _ _ _ h2.bs h2.p
      exact hK.out _ _ ⟨h3.1, .inr h3.2⟩ (fun _ => J0ftt _ _ _ _ _ _ _ _ h2)
    exact AllG.nil
  have J0fft : ∀ W v1 v2 v3 b1 b2 b3 a, St c a0 0 false false true v1 v2 v3 b1 b2 b3 a W → wpAnyG Tryz.prog .any ops Q S1 S2 32 11 (Lst 0 false false true) a W := fun W v1 v2 v3 b1 b2 b3 a h => by
    refine wpAnyG_ready rJ0fft (by simp) ?_
    refine AllG.cons p13 (fun K hK => ?_) ?_
    · refine step_b g13 q13 c.r ((h.agr.at 89 (by decide)).trans hc.e89) ?_
      rw [d13]
      have h2 := St.mk1 hc h
      have h3 := hS _ _ _ h2.bs h2.p
      exact hK.out _ _ ⟨h3.1, .inr h3.2⟩ (fun _ => J0tft _ _ _ _ _ _ _ _ h2)
    refine AllG.cons p21 (fun K hK => ?_) ?_
    · refine step_b g21 q21 c.r ((h.agr.at 97 (by decide)).trans hc.e97) ?_
      rw [d21]
      have h2 := St.mk2 hc h
      have h3 := hS _ _ _ h2.bs h2.p
      exact hK.out _ _ ⟨h3.1, .inr h3.2⟩ (fun _ => J0ftt _ _ _ _ _ _ _ _ h2)
    exact AllG.nil
  have J0fff : ∀ W v1 v2 v3 b1 b2 b3 a, St c a0 0 false false false v1 v2 v3 b1 b2 b3 a W → wpAnyG Tryz.prog .any ops Q S1 S2 32 12 (Lst 0 false false false) a W := fun W v1 v2 v3 b1 b2 b3 a h => by
    refine wpAnyG_ready rJ0fff (by simp) ?_
    refine AllG.cons p13 (fun K hK => ?_) ?_
    · refine step_b g13 q13 c.r ((h.agr.at 89 (by decide)).trans hc.e89) ?_
      rw [d13]
      have h2 := St.mk1 hc h
      have h3 := hS _ _ _ h2.bs h2.p
      exact hK.out _ _ ⟨h3.1, .inr h3.2⟩ (fun _ => J0tff _ _ _ _ _ _ _ _ h2)
    refine AllG.cons p21 (fun K hK => ?_) ?_
    · refine step_b g21 q21 c.r ((h.agr.at 97 (by decide)).trans hc.e97) ?_
      rw [d21]
      have h2 := St.mk2 hc h
      have h3 := hS _ _ _ h2.bs h2.p
      exact hK.out _ _ ⟨h3.1, .inr h3.2⟩ (fun _ => J0ftf _ _ _ _ _ _ _ _ h2)
    refine AllG.cons p29 (fun K hK => ?_) ?_
    · refine step_b g29 q29 c.r ((h.agr.at 105 (by decide)).trans hc.e105) ?_
      rw [d29]
      have h2 := St.mk3 hc h
      have h3 := hS _ _ _ h2.bs h2.p
      exact hK.out _ _ ⟨h3.1, .inr h3.2⟩ (fun _ => J0fft _ _ _ _ _ _ _ _ h2)
    exact AllG.nil
  exact J0fff _ default default default 0 0 0 _ ⟨Agr.refl _, hst, hp, fun e => (by cases e), fun e => (by cases e), fun e => (by cases e), fun e => absurd e (by decide), fun e => absurd e (by decide), fun e => absurd e (by decide)⟩
end Go.Proofs.YtmapagbmihpbmaaGreatDoor

namespace Go.Proofs.YtmapagbmihpbmaaGreatDoor
open Go.RowKit

/-- All groups under one numbering: the cells, the rows, the columns. -/
def FF (n m : Nat) (l : List Rm) (x : Nat) : List Rm := if x < n * m then grM l (x / m) (x % m) else if x < n * m + n then Pv.gr1 Rm.row l (x - n * m) else Pv.gr1 Rm.col l (x - n * m - n)
theorem ff_nil (n m x : Nat) : FF n m [] x = [] := by unfold FF grM Pv.gr Pv.gr1; split <;> (try split) <;> rfl
theorem ff_cell (n m : Nat) (l : List Rm) (x : Nat) (h : x < n * m) : FF n m l x = grM l (x / m) (x % m) := if_pos h
theorem ff_row (n m : Nat) (l : List Rm) (i : Nat) (h : i < n) : FF n m l (n * m + i) = Pv.gr1 Rm.row l i := by
  unfold FF
  rw [if_neg (by omega), if_pos (by omega), Nat.add_sub_cancel_left]
theorem ff_col (n m : Nat) (l : List Rm) (k : Nat) : FF n m l (n * m + n + k) = Pv.gr1 Rm.col l k := by
  unfold FF
  rw [if_neg (by omega), if_neg (by omega)]
  congr 1
  omega
theorem ff_len (n m : Nat) (l : List Rm) (x : Nat) : (FF n m l x).length ≤ l.length := by
  unfold FF grM Pv.gr Pv.gr1
  split
  · exact List.length_filter_le _ _
  · split
    · exact List.length_filter_le _ _
    · exact List.length_filter_le _ _
theorem ff_step (n m : Nat) (l : List Rm) (r : Rm) (hr : r.row < n) (hc : r.col < m) (x : Nat) (hx : x < n * m + n + m) :
    FF n m (l ++ [r]) x = up (up (up (FF n m l) (r.row * m + r.col) (FF n m l (r.row * m + r.col) ++ [r])) (n * m + r.row) (FF n m l (n * m + r.row) ++ [r])) (n * m + n + r.col) (FF n m l (n * m + n + r.col) ++ [r]) x := by
  have h1 : r.row * m + r.col < n * m := by
    have := Nat.mul_le_mul_right m (show r.row + 1 ≤ n from hr)
    rw [Nat.add_mul] at this
    omega
  have hd : (r.row * m + r.col) / m = r.row := by
    rw [Nat.mul_comm, Nat.mul_add_div (by omega), Nat.div_eq_of_lt hc, Nat.add_zero]
  have hm : (r.row * m + r.col) % m = r.col := by
    rw [Nat.mul_comm, Nat.mul_add_mod, Nat.mod_eq_of_lt hc]
  unfold up
  by_cases e3 : x = n * m + n + r.col
  · subst e3
    rw [if_pos rfl, ff_col, ff_col]
    unfold Pv.gr1
    simp
  rw [if_neg e3]
  by_cases e2 : x = n * m + r.row
  · subst e2
    rw [if_pos rfl, ff_row _ _ _ _ hr, ff_row _ _ _ _ hr]
    unfold Pv.gr1
    simp
  rw [if_neg e2]
  by_cases e1 : x = r.row * m + r.col
  · subst e1
    rw [if_pos rfl, ff_cell _ _ _ _ h1, ff_cell _ _ _ _ h1, hd, hm]
    unfold grM Pv.gr
    simp
  rw [if_neg e1]
  unfold FF
  split
  · unfold grM Pv.gr
    rw [List.filter_append]
    have : (r.row == x / m && r.col == x % m) = false := by
      rw [Bool.and_eq_false_iff]
      by_cases h : r.row = x / m
      · refine .inr ?_
        rw [beq_eq_false_iff_ne]
        intro h2
        apply e1
        rw [h, h2, Nat.mul_comm]
        exact (Nat.div_add_mod x m).symm
      · exact .inl (by simpa using h)
    simp [this]
  · split
    · unfold Pv.gr1
      have : (r.row == x - n * m) = false := by
        rw [beq_eq_false_iff_ne]
        omega
      simp [List.filter_append, this]
    · unfold Pv.gr1
      have : (r.col == x - n * m - n) = false := by
        rw [beq_eq_false_iff_ne]
        omega
      simp [List.filter_append, this]
theorem Bg.congr {W : World} {B M : Nat} {H H' : Nat → SV} {F F' : Nat → List Rm} (h : Bg W B M H F) (e1 : ∀ x, x < M → H x = H' x) (e2 : ∀ x, x < M → F x = F' x) : Bg W B M H' F' :=
  ⟨fun x hx => by rw [← e1 x hx, ← e2 x hx]; exact h.row x hx, fun x y hx hy hne k hk => by
    rw [← e1 x hx] at hk
    rw [← e1 y hy]
    exact h.sep x y hx hy hne k hk⟩
section
variable {ops : Array Oper} {o : Oper} {a : Act} {K : Act → World → Prop} {Q : Exit → Act → World → Prop} {X : Prop}
/-- make of a row of headers, at a step of a region that draws. -/
theorem step_mk {W : World} (hgd : o.guard = none) (x y : Operand) (ho : o.op = .makeSlice 59 x y) (B N : Nat) (hx : a.eval x = .int .i64 (N : Int)) (hy : a.eval y = .int .i64 (N : Int)) (hn : N ≤ 1000000) (hB : B ≤ W.heap.size)
    (h : ∀ W', HR W' B W.heap.size N (fun _ => (none, 0, 0)) → Below W.heap.size W W' → W.heap.size < W'.heap.size → K (a.put o.dst (.slice (some ⟨W.heap.size, 0, none⟩) N N)) W') :
    if Region.wanted o (yielded ops a.tmps) = true then Oper.wp Tryz.prog o a W K Q else X := by
  have hw : Region.wanted o (yielded ops a.tmps) = true := by simp [Region.wanted, hgd]
  rw [if_pos hw]
  obtain ⟨i0, hi, hz0, hz1, hz2⟩ := info_parts sr_info
  obtain ⟨w', hrun, r1, r2⟩ := run_make_full (P := Tryz.prog) W B 59 54 i0 (.slice none 0 0) 1 Tryz.underlying59 hi hz0 hz1 .i64 .i64 N (by rw [hz2]; omega) (by unfold maxLen; omega) hB
  have hb : Below W.heap.size W w' := ⟨r2.os, r2.tape, r2.output, r2.size, fun k hk => r2.block k hk (by simp)⟩
  have hh : HR w' B W.heap.size N (fun _ => (none, 0, 0)) := by
    refine ⟨N, ?_⟩
    unfold RowOf
    rw [List.length_map, List.length_range, sv1_flat]
    have e : (madeCells (Value.slice none 0 0).cells (N * 1)).toList = List.replicate N (Value.slice none 0 0) := by
      rw [Nat.mul_one]
      exact toList_madeCells_one _ _
    rw [e] at r1
    have e2 : ((List.range N).map fun _ => ((none, 0, 0) : SV)).map sv3 = List.replicate N (Value.slice none 0 0) := by
      rw [List.map_map]
      exact (List.map_const' ..).trans (by rw [List.length_range])
    rw [e2]
    exact r1
  unfold Oper.wp
  simp [execOp, ho, hx, hy, hrun, Result.andThen]
  exact h _ hh hb ((World.ownsRow.lt r1 W.heap.size rfl).2)
end
end Go.Proofs.YtmapagbmihpbmaaGreatDoor

namespace Go.Proofs.YtmapagbmihpbmaaGreatDoor
open Go.RowKit

theorem recs_len (us : List Vl) (cr cl R : Nat) : (recsP us cr cl R).length = R := by simp [recsP]
theorem recs_row (us : List Vl) (cr cl R : Nat) (hok : ∀ u ∈ colL us cr R, u.ok) : ∀ r ∈ recsP us cr cl R, r.row < (keysP (colL us cr R)).length := fun r hr => by
  obtain ⟨i, hi, rfl⟩ := List.mem_map.1 hr
  exact place_lt _ hok _ (colL_get us cr R i (List.mem_range.1 hi))
theorem recs_col (us : List Vl) (cr cl R : Nat) (hok : ∀ u ∈ colL us cl R, u.ok) : ∀ r ∈ recsP us cr cl R, r.col < (keysP (colL us cl R)).length := fun r hr => by
  obtain ⟨i, hi, rfl⟩ := List.mem_map.1 hr
  exact place_lt _ hok _ (colL_get us cl R i (List.mem_range.1 hi))
section
variable {P : Program} {ops : Array Oper} {Q : Exit → Act → World → Prop} {md : Region.Mode} {S1 S2 : World → Prop} {d : Nat}
theorem wpAnyG_cast {fuel : Nat} {L : Array Bool} (L' : Array Bool) {a : Act} {w : World} (e : (L == L') = true) (h : wpAnyG P md ops Q S1 S2 d fuel L' a w) : wpAnyG P md ops Q S1 S2 d fuel L a w := by
  rw [beq_iff_eq.1 e]
  exact h
end
/-- One header is put. -/
theorem BS.set1 {w W : World} {L : List (Nat × TypeId × Array Value)} {B M g1 nm g2 n g3 m : Nat} {H : Nat → SV} {F : Nat → List Rm} {Ha Hb Hc : Nat → SV} (h : BS w W L B M g1 nm g2 n g3 m H F Ha Hb Hc) (h2 : g1 ≠ g2) (h3 : g1 ≠ g3) (i : Nat) (v : SV) :
    BS w (W.setCell ⟨g1, i, none⟩ (sv3 v)) L B M g1 nm g2 n g3 m H F (up Ha i v) Hb Hc := by
  have hc : Chg W.heap.size [g1] W (W.setCell ⟨g1, i, none⟩ (sv3 v)) := (Chg.refl W.heap.size [g1] W).set (p := ⟨g1, i, none⟩) (.inl (List.mem_singleton.2 rfl)) _
  have hl := h.a1.lt
  refine ⟨h.loc.far1 (Nat.le_trans h.low hl.1) (fun x hx => Nat.lt_of_lt_of_le (h.own x hx) hl.1) _, h.bag.chg hc fun g hg => ?_, h.a1.set i v, h.a2.chg hc (fun e => h2 (List.mem_singleton.1 e).symm), h.a3.chg hc (fun e => h3 (List.mem_singleton.1 e).symm), Nat.le_trans h.base hc.size, h.low, h.own⟩
  obtain rfl := List.mem_singleton.1 hg
  obtain ⟨cs, hb⟩ := h.a1.blk
  exact ⟨_, cs, hb, by decide⟩
theorem BS.rot {w W : World} {L : List (Nat × TypeId × Array Value)} {B M g1 nm g2 n g3 m : Nat} {H : Nat → SV} {F : Nat → List Rm} {Ha Hb Hc : Nat → SV} (h : BS w W L B M g1 nm g2 n g3 m H F Ha Hb Hc) : BS w W L B M g2 n g3 m g1 nm H F Hb Hc Ha := ⟨h.loc, h.bag, h.a2, h.a3, h.a1, h.base, h.low, h.own⟩
theorem BS.congr {w W : World} {L : List (Nat × TypeId × Array Value)} {B M g1 nm g2 n g3 m : Nat} {H : Nat → SV} {F F' : Nat → List Rm} {Ha Hb Hc Ha' Hb' Hc' : Nat → SV} (h : BS w W L B M g1 nm g2 n g3 m H F Ha Hb Hc) (e0 : ∀ x, x < M → F x = F' x) (e1 : ∀ i, i < nm → Ha i = Ha' i) (e2 : ∀ i, i < n → Hb i = Hb' i) (e3 : ∀ i, i < m → Hc i = Hc' i) : BS w W L B M g1 nm g2 n g3 m H F' Ha' Hb' Hc' :=
  ⟨h.loc, h.bag.congr (fun _ _ => rfl) e0, h.a1.congr e1, h.a2.congr e2, h.a3.congr e3, h.base, h.low, h.own⟩
/-- The three headers are put back. -/
theorem BS.put3 {w W : World} {L : List (Nat × TypeId × Array Value)} {B M g1 nm g2 n g3 m : Nat} {H0 : Nat → SV} {F F' : Nat → List Rm} {x1 i k : Nat} {v1 v2 v3 : SV} (h : BS w W L B M g1 nm g2 n g3 m (up (up (up H0 x1 v1) (nm + i) v2) (nm + n + k) v3) F H0 (fun j => H0 (nm + j)) (fun j => H0 (nm + n + j)))
    (h12 : g1 ≠ g2) (h13 : g1 ≠ g3) (h23 : g2 ≠ g3) (l1 : x1 < nm) (l2 : i < n) (hF : ∀ x, x < M → F x = F' x) :
    BS w (((W.setCell ⟨g1, x1, none⟩ (sv3 v1)).setCell ⟨g2, i, none⟩ (sv3 v2)).setCell ⟨g3, k, none⟩ (sv3 v3)) L B M g1 nm g2 n g3 m (up (up (up H0 x1 v1) (nm + i) v2) (nm + n + k) v3) F' (up (up (up H0 x1 v1) (nm + i) v2) (nm + n + k) v3) (fun j => up (up (up H0 x1 v1) (nm + i) v2) (nm + n + k) v3 (nm + j)) (fun j => up (up (up H0 x1 v1) (nm + i) v2) (nm + n + k) v3 (nm + n + j)) := by
  have a := h.set1 h12 h13 x1 v1
  have b := a.rot.set1 h23 (Ne.symm h12) i v2
  have c := b.rot.set1 (Ne.symm h13) (Ne.symm h23) k v3
  refine c.rot.congr hF (fun j hj => ?_) (fun j hj => ?_) (fun j hj => ?_)
  · by_cases e : j = x1
    · rw [e, up_same, up_ne _ _ _ _ (by omega), up_ne _ _ _ _ (by omega), up_same]
    · rw [up_ne _ _ _ _ e, up_ne _ _ _ _ (by omega), up_ne _ _ _ _ (by omega), up_ne _ _ _ _ e]
  · by_cases e : j = i
    · rw [e, up_same, up_ne _ _ _ _ (by omega), up_same]
    · rw [up_ne _ _ _ _ e, up_ne _ _ _ _ (by omega), up_ne _ _ _ _ (by omega), up_ne _ _ _ _ (by omega)]
  · by_cases e : j = k
    · rw [e, up_same, up_same]
    · rw [up_ne _ _ _ _ e, up_ne _ _ _ _ (by omega), up_ne _ _ _ _ (by omega), up_ne _ _ _ _ (by omega)]
end Go.Proofs.YtmapagbmihpbmaaGreatDoor
