/- Three records are put at the ends of three rows, in any order of the steps: state and steps. -/
import Derived.Test.YtmapagbmihpbmaaGreatDoorGq
import Derived.Test.YtmapagbmihpbmaaGreatDoorGr
set_option linter.unusedSimpArgs false
set_option linter.unusedVariables false
namespace Go.Proofs.YtmapagbmihpbmaaGreatDoor
open Go.RowKit

/-- Rows of records in three arrays of headers; the bag has all rows under one numbering. -/
structure BS (w W : World) (L : List (Nat × TypeId × Array Value)) (B M g1 nm g2 n g3 m : Nat) (H : Nat → SV) (F : Nat → List Rm) (Ha Hb Hc : Nat → SV) : Prop where
  loc : Loc w L W
  bag : Bg W B M H F
  a1 : HR W B g1 nm Ha
  a2 : HR W B g2 n Hb
  a3 : HR W B g3 m Hc
  base : B ≤ W.heap.size
  low : w.heap.size ≤ B
  own : ∀ x ∈ L, x.1 < B
/-- A block with one record that stands apart from the rows. -/
structure Ap (W : World) (B M : Nat) (H : Nat → SV) (cs : Array Value) (b : Nat) : Prop where
  blk : Blk W b 61 cs
  le : B ≤ b
  sep : ∀ x, x < M → (sv3 (H x)).ownBlock ≠ some b
section
variable {w W W' : World} {L : List (Nat × TypeId × Array Value)} {B M g1 nm g2 n g3 m : Nat} {H : Nat → SV} {F : Nat → List Rm} {Ha Hb Hc : Nat → SV} {cs : Array Value} {b : Nat}
theorem BS.later (h : BS w W L B M g1 nm g2 n g3 m H F Ha Hb Hc) (hb : Below W.heap.size W W') : BS w W' L B M g1 nm g2 n g3 m H F Ha Hb Hc :=
  ⟨h.loc.step hb, h.bag.later hb, h.a1.later hb, h.a2.later hb, h.a3.later hb, Nat.le_trans h.base hb.size, h.low, h.own⟩
theorem BS.drew (h : BS w W L B M g1 nm g2 n g3 m H F Ha Hb Hc) : BS w W.drew L B M g1 nm g2 n g3 m H F Ha Hb Hc := ⟨h.loc.drew, h.bag.drew, h.a1, h.a2, h.a3, h.base, h.low, h.own⟩
theorem BS.alloc (h : BS w W L B M g1 nm g2 n g3 m H F Ha Hb Hc) (o : Obj) : BS w (W.alloc o) L B M g1 nm g2 n g3 m H F Ha Hb Hc := h.later ((Below.refl _ _).alloc (Nat.le_refl _) _)
theorem Ap.later (h : Ap W B M H cs b) (hb : Below W.heap.size W W') : Ap W' B M H cs b := ⟨h.blk.later hb, h.le, h.sep⟩
theorem Ap.new (h : Bg W B M H F) (hB : B ≤ W.heap.size) : Ap (W.alloc (.cells cs 61)) B M H cs W.heap.size :=
  ⟨Blk.new _ _ _, hB, fun x hx e => by
    have := (RowOf.lt (h.row x hx) _ e).2
    omega⟩
/-- One of the rows grows. -/
theorem BS.app (h : BS w W L B M g1 nm g2 n g3 m H F Ha Hb Hc) {x : Nat} (hx : x < M) {v : SV} {l : List Rm} (h1 : RO W' B (sv3 v) l) (h0 : Below B W W') (h2 : W.grownBy W' (sv3 (H x)).ownBlock) (h3 : (sv3 v).ownBlock = (sv3 (H x)).ownBlock ∨ (sv3 v).ownBlock = some W.heap.size) : BS w W' L B M g1 nm g2 n g3 m (up H x v) (up F x l) Ha Hb Hc := by
  have hne : 54 ≠ 61 := by decide
  have hr := h.bag.row x hx
  have hA : ∀ {g N : Nat} {H' : Nat → SV}, HR W B g N H' → HR W' B g N H' := fun {g N H'} ha => by
    refine ha.chg (Chg.grownK h2) fun hm => ?_
    obtain ⟨c, ha⟩ := ha
    exact RowOf.apart2 ha hr hne (g := g) rfl (by simpa using hm)
  exact ⟨h.loc.stepB' h0 h.low h.own, h.bag.app hx h1 h2 (h3.imp id fun e => ⟨_, e, Nat.le_refl _⟩), hA h.a1, hA h.a2, hA h.a3, Nat.le_trans h.base h0.size, h.low, h.own⟩
theorem Ap.app (h : Ap W B M H cs b) {x : Nat} (hx : x < M) {v : SV} (h2 : W.grownBy W' (sv3 (H x)).ownBlock) (h3 : (sv3 v).ownBlock = (sv3 (H x)).ownBlock ∨ (sv3 v).ownBlock = some W.heap.size) : Ap W' B M (up H x v) cs b := by
  refine ⟨(h2.block b h.blk.lt (Ne.symm (h.sep x hx))).trans h.blk, h.le, fun y hy e => ?_⟩
  by_cases hyx : y = x
  · subst hyx
    rw [up_same] at e
    rcases h3 with h3 | h3
    · rw [h3] at e
      exact h.sep y hx e
    · rw [h3] at e
      injection e with e
      have := h.blk.lt
      omega
  · rw [up_ne _ _ _ _ hyx] at e
    exact h.sep y hy e
end
def rA (r : Rm) : Array Value := #[.int .i64 r.at_, .int .i64 r.row, .int .i64 r.col, .int .i64 r.v.k, .string r.v.num, .string r.v.den, .string r.v.text, .bool r.v.on, .int .i64 r.v.code, .int .i64 r.v.rows, .int .i64 r.v.cols, .slice r.v.A r.v.n r.v.c]
theorem rA_list (r : Rm) : (rA r).toList = rmC r := rfl
section
variable {ops : Array Oper} {o : Oper} {a : Act} {K : Act → World → Prop} {Q : Exit → Act → World → Prop} {X : Prop}
theorem step_b {W : World} (hgd : o.guard = none) {t : Nat} (ho : o.op = .buildSlice 54 1 #[(0, .tmp t)]) (r : Rm) (hx : a.eval (.tmp t) = .agg (rA r)) (h : K (a.put o.dst (.slice (some ⟨W.heap.size, 0, none⟩) 1 1)) (W.alloc (.cells (rA r) 61))) :
    if Region.wanted o (yielded ops a.tmps) = true then Oper.wp Tryz.prog o a W K Q else X := by
  have hw : Region.wanted o (yielded ops a.tmps) = true := by simp [Region.wanted, hgd]
  rw [if_pos hw]
  obtain ⟨dst, op, ty, after, guard⟩ := o
  dsimp only at ho hgd h
  subst ho hgd
  unfold rA at hx h
  have hx : a.tmps.getD t undef = _ := hx
  rw [Array.getD_eq_getD_getElem?] at hx
  go_simp
  (try simp only [hx])
  (try go_simp)
  exact h
set_option maxHeartbeats 4000000
/-- The act but for what the three steps put. -/
structure Agr (a0 a : Act) : Prop where
  defers : a.defers = a0.defers
  size : a.tmps.size = a0.tmps.size
  rest : ∀ k, k ≠ 90 → k ≠ 91 → k ≠ 98 → k ≠ 99 → k ≠ 106 → k ≠ 107 → a.tmps.getD k undef = a0.tmps.getD k undef
theorem Agr.refl (a : Act) : Agr a a := ⟨rfl, rfl, fun _ _ _ _ _ _ _ => rfl⟩
theorem put_ne (a : Act) (d k : Nat) (v : Value) (h : k ≠ d) : (a.put (some d) v).tmps.getD k undef = a.tmps.getD k undef := by
  unfold Act.put
  simp [Array.getD_eq_getD_getElem?, Array.getElem?_setIfInBounds, Ne.symm h]
theorem put_same (a : Act) (d : Nat) (v : Value) (h : d < a.tmps.size) : (a.put (some d) v).tmps.getD d undef = v := by
  unfold Act.put
  simp [Array.getD_eq_getD_getElem?, h]
theorem put_size (a : Act) (d : Nat) (v : Value) : (a.put (some d) v).tmps.size = a.tmps.size := by simp [Act.put]
theorem act_ext {a b : Act} (hd : a.defers = b.defers) (hs : a.tmps.size = b.tmps.size) (h : ∀ k, a.tmps.getD k undef = b.tmps.getD k undef) : a = b := by
  obtain ⟨t, df⟩ := a
  obtain ⟨t0, df0⟩ := b
  dsimp only at hd hs h
  have ht : t = t0 := by
    apply Array.ext hs
    intro k h1 h2
    have := h k
    simpa [Array.getD_eq_getD_getElem?, h1, h2] using this
  rw [hd, ht]
theorem Agr.put {a0 a : Act} (h : Agr a0 a) (d : Nat) (hd : d = 90 ∨ d = 91 ∨ d = 98 ∨ d = 99 ∨ d = 106 ∨ d = 107) (v : Value) : Agr a0 (a.put (some d) v) :=
  ⟨h.defers, by simpa [Act.put] using h.size, fun k h90 h91 h98 h99 h106 h107 => by
    rw [put_ne _ _ _ _ (by omega)]
    exact h.rest k h90 h91 h98 h99 h106 h107⟩
theorem Agr.eq {a0 a : Act} (h : Agr a0 a) (hs : 107 < a0.tmps.size) {x90 x91 x98 x99 x106 x107 : Value} (e90 : a.tmps.getD 90 undef = x90) (e91 : a.tmps.getD 91 undef = x91) (e98 : a.tmps.getD 98 undef = x98) (e99 : a.tmps.getD 99 undef = x99) (e106 : a.tmps.getD 106 undef = x106) (e107 : a.tmps.getD 107 undef = x107) : a = (((((a0.put (some 90) x90).put (some 91) x91).put (some 98) x98).put (some 99) x99).put (some 106) x106).put (some 107) x107 := by
  refine act_ext h.defers (by simp only [put_size, h.size]) fun k => ?_
  by_cases h107 : k = 107
  · rw [h107, e107, put_same _ _ _ (by (try simp only [put_size]); omega)]
  rw [put_ne _ _ _ _ h107]
  by_cases h106 : k = 106
  · rw [h106, e106, put_same _ _ _ (by (try simp only [put_size]); omega)]
  rw [put_ne _ _ _ _ h106]
  by_cases h99 : k = 99
  · rw [h99, e99, put_same _ _ _ (by (try simp only [put_size]); omega)]
  rw [put_ne _ _ _ _ h99]
  by_cases h98 : k = 98
  · rw [h98, e98, put_same _ _ _ (by (try simp only [put_size]); omega)]
  rw [put_ne _ _ _ _ h98]
  by_cases h91 : k = 91
  · rw [h91, e91, put_same _ _ _ (by (try simp only [put_size]); omega)]
  rw [put_ne _ _ _ _ h91]
  by_cases h90 : k = 90
  · rw [h90, e90, put_same _ _ _ (by (try simp only [put_size]); omega)]
  rw [put_ne _ _ _ _ h90]
  exact h.rest k h90 h91 h98 h99 h106 h107
end
end Go.Proofs.YtmapagbmihpbmaaGreatDoor
