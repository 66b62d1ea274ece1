/- Series of a chart that is made; an empty value is shown. -/
import Derived.Test.YtigeipjkcidleaaGreatDoorTdF
import Derived.Test.YtigeipjkcidleaaGreatDoorTdB
import Derived.Test.YtigeipjkcidleaaGreatDoorMem
namespace Go.Proofs.YtigeipjkcidleaaGreatDoor
open Go.RowKit

section
variable {w W W' : World} {L : List (Nat × TypeId × Array Value)} {B base : Nat} {v : Value} {l : List Nat}
theorem Loc.stepB (h : Loc w L W) (hb : Below B W W') (hB : w.heap.size ≤ B) (hL : ∀ x ∈ L, x.1 < B) : Loc w L W' := ⟨h.1.trans (hb.mono hB), fun x hx => ⟨(h.2 x hx).1, (h.2 x hx).2.below hb (hL x hx)⟩⟩
theorem R1.ki (h : R1 3 .i64 W base v l) (hk : KI W W') : R1 3 .i64 W' base v l := by
  refine ⟨h.1, ?_⟩
  rcases h.2 with h0 | ⟨g, cap, cur, e, a1, a2, a3⟩
  · exact .inl h0
  · exact .inr ⟨g, cap, cur, e, a1, hk g cur a2, a3⟩
theorem R1.rdI (h : R1 3 .i64 W base v l) : RdI W v (l.map fun (x : Nat) => (x : Int)) := by
  refine RowOf.reads (E := 3) (base := base) ?_ (fun _ => rfl)
  have e : ∀ l : List Nat, (l.map fun (x : Nat) => (x : Int)).flatMap (fun n => [Value.int .i64 n]) = l.map fun (x : Nat) => Value.int .i64 (x : Int) := fun l => by
    induction l with
    | nil => rfl
    | cons x t ih => rw [List.map_cons, List.flatMap_cons, ih]; rfl
  unfold RowOf
  rw [e, List.length_map]
  exact h
end
/-- Series that are made: their heads in a row, their numbers in rows of their own. -/
def SerAt (W : World) (base : Nat) (vs : Value) (L : List (List Nat)) : Prop :=
  ∃ H : List Hd, H.length = L.length ∧ RowOf 22 1 (fun h => [hdV h]) W base vs H ∧ ∀ i (h1 : i < H.length) (h2 : i < L.length), R1 3 .i64 W base (hdV H[i]) L[i]
theorem ser_len (x : Hd) : [hdV x].length = 1 ∧ ∀ u ∈ [hdV x], u.oneCell' = true := ⟨rfl, by simp [hdV, Value.oneCell']⟩
theorem ser_info : (Tryz.prog.info? 22).map (fun i => (i.zero, i.size, i.bytes)) = some (some (.slice none 0 0), 1, 24) := by kernel_rfl
theorem str_len (x : ByteArray) : [Value.string x].length = 1 ∧ ∀ u ∈ [Value.string x], u.oneCell' = true := ⟨rfl, by simp [Value.oneCell']⟩
theorem str_info : (Tryz.prog.info? 9).map (fun i => (i.zero, i.size, i.bytes)) = some (some (.string ⟨#[]⟩), 1, 16) := by kernel_rfl
section
variable {W W' : World} {base : Nat} {vs v' : Value} {L : List (List Nat)}
theorem SerAt.nil (W : World) (base : Nat) : SerAt W base (.slice none 0 0) [] := ⟨[], rfl, RowOf.nil _ _, fun i h => by simp at h⟩
theorem SerAt.later (h : SerAt W base vs L) (hb : Below W.heap.size W W') : SerAt W' base vs L := by
  obtain ⟨H, h1, h2, h3⟩ := h
  exact ⟨H, h1, h2.later hb, fun i a b => (h3 i a b).later hb⟩
theorem SerAt.far (h : SerAt W base vs L) {p : Addr} (hp : p.block < base) (u : Value) : SerAt (W.setCell p u) base vs L := by
  obtain ⟨H, h1, h2, h3⟩ := h
  exact ⟨H, h1, h2.far (fun g hg => by have := (RowOf.lt h2 g hg).1; omega) u, fun i a b => (h3 i a b).far (fun g hg => by have := ((h3 i a b).lt g hg).1; omega) u⟩
theorem SerAt.drewN (h : SerAt W base vs L) (n : Nat) : SerAt (W.drewN n) base vs L := h
theorem SerAt.shape (h : SerAt W base vs L) : ∃ A c, vs = .slice A L.length c := by
  obtain ⟨H, h1, h2, h3⟩ := h
  rcases h2.2 with ⟨rfl, h0⟩ | ⟨g, cap, cur, rfl, _⟩
  · exact ⟨none, 0, by rw [← h1, h0]⟩
  · exact ⟨_, cap, by rw [h1]⟩
theorem SerAt.rows2 (h : SerAt W base vs L) : Rows2 W vs (L.map fun l => l.map fun (x : Nat) => (x : Int)) := by
  obtain ⟨H, h1, h2, h3⟩ := h
  refine ⟨H, by simpa using h1, h2.reads (fun _ => rfl), fun i a b => ?_⟩
  rw [List.getElem_map]
  exact (h3 i a (by simpa using b)).rdI
theorem SerAt.row (h : SerAt W base vs L) : ∃ H : List Hd, H.length = L.length ∧ RowOf 22 1 (fun h => [hdV h]) W base vs H ∧ ∀ (h0 : Hd) (l : List Nat) (W' : World) (v' : Value), R1 3 .i64 W base (hdV h0) l → RowOf 22 1 (fun h => [hdV h]) W' base v' (H ++ [h0]) → KI W W' → SerAt W' base v' (L ++ [l]) := by
  obtain ⟨H, h1, h2, h3⟩ := h
  refine ⟨H, h1, h2, fun h0 l W' v' hr ho hk => ⟨H ++ [h0], by simp [h1], ho, fun i a b => ?_⟩⟩
  by_cases e : i < H.length
  · rw [List.getElem_append_left e, List.getElem_append_left (by omega)]
    exact (h3 i e (by omega)).ki hk
  · rw [List.getElem_append_right (by omega), List.getElem_append_right (by omega)]
    simp only [List.length_append, List.length_cons, List.length_nil] at a b
    have e1 : i - H.length = 0 := by omega
    have e2 : i - L.length = 0 := by omega
    simp only [e1, e2, List.getElem_cons_zero]
    exact hr.ki hk
end
theorem KI.grow {w w' : World} {base : Nat} {v : Value} {α : Type} {E : TypeId} {size : Nat} {f : α → List Value} {l : List α} (h : RowOf E size f w base v l) (hE : 3 ≠ E) (hg : w.grownBy w' v.ownBlock) : KI w w' := fun q cs hq => by
  refine (Chg.grown hg).blk hq hq.lt fun hm => h.apart hq hE (by simpa using hm)
theorem KI.alloc (w : World) (o : Obj) : KI w (w.alloc o) := KI.of ((Below.refl _ _).alloc (Nat.le_refl _) _)
set_option maxRecDepth 100000 in
set_option maxHeartbeats 2000000 in
theorem tshown_e (num den text : ByteArray) (on : Bool) (code rows cols : Int) (A : Option Addr) (n c : Nat)  (w : World) :
    Calls Tryz.prog 81 #[.agg #[.int .i64 0, .string num, .string den, .string text, .bool on, .int .i64 code, .int .i64 rows, .int .i64 cols, .slice A n c]] w fun e w' => e = .returned (.string ⟨#[]⟩) ∧ Below w.heap.size w w' := by
  have HL0 := Lib.hid ((Loc.start w).alloc' rfl 27 #[.int .i64 0, .string num, .string den, .string text, .bool on, .int .i64 code, .int .i64 rows, .int .i64 cols, .slice A n c])
  go_enter Tryz.func81, Tryz.ntmps81
  go_wp2_with (fail)
  go_ret
  exact ⟨rfl, HL0.out.bel⟩
set_option maxRecDepth 100000 in
set_option maxHeartbeats 2000000 in
theorem show0_any (w : World) (he : VEnv w) :
    Calls Tryz.prog 38 #[zVl.v] w fun e w' => e = .returned (.tuple #[.string ⟨#[]⟩, .int .i64 0]) ∧ Below w.heap.size w w' := by
  have hok : zVl.ok := ⟨show (0 : Int) ≤ 0 by decide, show (0 : Int) ≤ 4 by decide, by simp [zVl, Vl.zB, Lib.toList_data, frSame], fun h => absurd (show (0 : Int) = 1 from h) (by decide), fun h => absurd (show (0 : Int) = 2 from h) (by decide), fun h => absurd (show (0 : Int) = 4 from h) (by decide)⟩
  have HC := Lib.hid (show ∀ W, Below w.heap.size w W → Calls Tryz.prog 65 #[.agg #[.int .i64 0, .string ⟨#[]⟩, .string ⟨#[]⟩, .string ⟨#[]⟩, .bool false, .int .i64 0, .int .i64 0, .int .i64 0, .slice none 0 0]] W fun e w' => e = .returned (.int .i64 0) ∧ Below W.heap.size W w' from fun W hW => (check_na zVl W (he.below hW) (by decide) (by decide) (by decide) (by decide)).mono fun e w' ⟨c, h1, h2, h3⟩ => ⟨by rw [h1, h2.2 hok], h3⟩)
  clear he hok
  show Calls Tryz.prog 38 #[.agg #[.int .i64 0, .string ⟨#[]⟩, .string ⟨#[]⟩, .string ⟨#[]⟩, .bool false, .int .i64 0, .int .i64 0, .int .i64 0, .slice none 0 0]] w _
  have HL0 := Lib.hid ((Loc.start w).alloc' rfl 27 #[.int .i64 0, .string ⟨#[]⟩, .string ⟨#[]⟩, .string ⟨#[]⟩, .bool false, .int .i64 0, .int .i64 0, .int .i64 0, .slice none 0 0])
  go_enter Tryz.func38, Tryz.ntmps38
  go_wp2_with (first
    | (go_at_call 65; (with_reducible refine (HC.out _ HL0.out.bel).mono ?_); rintro e w1 ⟨rfl, hb⟩; have HL1 := Lib.hid (HL0.out.step hb); obtain ⟨x0, x1, x2, x3, x4, x5, x6, x7, x8⟩ := (HL1.out.blk (List.mem_cons_self ..)).nine; clear hb)
    | (go_at_call 81; (with_reducible refine (tshown_e _ _ _ _ _ _ _ _ _ _ _).mono ?_); rintro e w2 ⟨rfl, hb⟩; have HL2 := Lib.hid (HL1.out.step hb); clear hb))
  go_ret2
  exact ⟨rfl, HL2.out.bel⟩
end Go.Proofs.YtigeipjkcidleaaGreatDoor

namespace Go.Proofs.YtigeipjkcidleaaGreatDoor
open Go.RowKit

section
variable {w : World} {g : Nat} {t : TypeId} {x0 x1 x2 x3 x4 x5 x6 x7 x8 x9 : Value}
theorem Blk.four {x0 x1 x2 x3 : Value} (h : Blk w g t #[x0, x1, x2, x3]) :
    w.cell? ⟨g, 0, none⟩ = some x0 ∧ w.cell? ⟨g, 1, none⟩ = some x1 ∧ w.cell? ⟨g, 2, none⟩ = some x2 ∧ w.cell? ⟨g, 3, none⟩ = some x3 ∧
    w.frozen? ⟨g, 0, none⟩ = false ∧ w.frozen? ⟨g, 1, none⟩ = false ∧ w.frozen? ⟨g, 2, none⟩ = false ∧ w.frozen? ⟨g, 3, none⟩ = false :=
  ⟨h.cell 0, h.cell 1, h.cell 2, h.cell 3, h.frozen 0, h.frozen 1, h.frozen 2, h.frozen 3⟩
theorem Blk.four_set {x0 x1 x2 x3 : Value} (h : Blk w g t #[x0, x1, x2, x3]) (y0 y1 y2 y3 : Value) :
    Blk ((((w.setCell ⟨g, 0, none⟩ y0).setCell ⟨g, 1, none⟩ y1).setCell ⟨g, 2, none⟩ y2).setCell ⟨g, 3, none⟩ y3) g t #[y0, y1, y2, y3] :=
  (((h.set_ 0 y0).set_ 1 y1).set_ 2 y2).set_ 3 y3
theorem Blk.four_far {g' : Nat} {cs : Array Value} (h : Blk w g' t cs) (hne : g' ≠ g) (y0 y1 y2 y3 : Value) :
    Blk ((((w.setCell ⟨g, 0, none⟩ y0).setCell ⟨g, 1, none⟩ y1).setCell ⟨g, 2, none⟩ y2).setCell ⟨g, 3, none⟩ y3) g' t cs :=
  ((((h.far hne y0).far hne y1).far hne y2).far hne y3)

theorem Blk.ten (h : Blk w g t #[x0, x1, x2, x3, x4, x5, x6, x7, x8, x9]) :
    w.cell? ⟨g, 0, none⟩ = some x0 ∧ w.cell? ⟨g, 1, none⟩ = some x1 ∧ w.cell? ⟨g, 2, none⟩ = some x2 ∧ w.cell? ⟨g, 3, none⟩ = some x3 ∧ w.cell? ⟨g, 4, none⟩ = some x4 ∧ w.cell? ⟨g, 5, none⟩ = some x5 ∧ w.cell? ⟨g, 6, none⟩ = some x6 ∧ w.cell? ⟨g, 7, none⟩ = some x7 ∧ w.cell? ⟨g, 8, none⟩ = some x8 ∧ w.cell? ⟨g, 9, none⟩ = some x9 :=
  ⟨h.cell 0, h.cell 1, h.cell 2, h.cell 3, h.cell 4, h.cell 5, h.cell 6, h.cell 7, h.cell 8, h.cell 9⟩
theorem Blk.tenf {cs : Array Value} (h : Blk w g t cs) :
    w.frozen? ⟨g, 0, none⟩ = false ∧ w.frozen? ⟨g, 1, none⟩ = false ∧ w.frozen? ⟨g, 2, none⟩ = false ∧ w.frozen? ⟨g, 3, none⟩ = false ∧ w.frozen? ⟨g, 4, none⟩ = false ∧ w.frozen? ⟨g, 5, none⟩ = false ∧ w.frozen? ⟨g, 6, none⟩ = false ∧ w.frozen? ⟨g, 7, none⟩ = false ∧ w.frozen? ⟨g, 8, none⟩ = false ∧ w.frozen? ⟨g, 9, none⟩ = false :=
  ⟨h.frozen 0, h.frozen 1, h.frozen 2, h.frozen 3, h.frozen 4, h.frozen 5, h.frozen 6, h.frozen 7, h.frozen 8, h.frozen 9⟩

/-- Ten stores; what is read back of the cell that was written last, store by store. -/
theorem Blk.ten_set (h : Blk w g t #[x0, x1, x2, x3, x4, x5, x6, x7, x8, x9]) (y0 y1 y2 y3 y4 y5 y6 y7 y8 y9 : Value) :
    Blk ((((((((((w.setCell ⟨g, 0, none⟩ y0).setCell ⟨g, 1, none⟩ y1).setCell ⟨g, 2, none⟩ y2).setCell ⟨g, 3, none⟩ y3).setCell ⟨g, 4, none⟩ y4).setCell ⟨g, 5, none⟩ y5).setCell ⟨g, 6, none⟩ y6).setCell ⟨g, 7, none⟩ y7).setCell ⟨g, 8, none⟩ y8).setCell ⟨g, 9, none⟩ y9) g t #[y0, y1, y2, y3, y4, y5, y6, y7, y8, y9] ∧
    (w.setCell ⟨g, 0, none⟩ y0).cell? ⟨g, 0, none⟩ = some y0 ∧
    ((w.setCell ⟨g, 0, none⟩ y0).setCell ⟨g, 1, none⟩ y1).cell? ⟨g, 1, none⟩ = some y1 ∧
    (((w.setCell ⟨g, 0, none⟩ y0).setCell ⟨g, 1, none⟩ y1).setCell ⟨g, 2, none⟩ y2).cell? ⟨g, 2, none⟩ = some y2 ∧
    ((((w.setCell ⟨g, 0, none⟩ y0).setCell ⟨g, 1, none⟩ y1).setCell ⟨g, 2, none⟩ y2).setCell ⟨g, 3, none⟩ y3).cell? ⟨g, 3, none⟩ = some y3 ∧
    (((((w.setCell ⟨g, 0, none⟩ y0).setCell ⟨g, 1, none⟩ y1).setCell ⟨g, 2, none⟩ y2).setCell ⟨g, 3, none⟩ y3).setCell ⟨g, 4, none⟩ y4).cell? ⟨g, 4, none⟩ = some y4 ∧
    ((((((w.setCell ⟨g, 0, none⟩ y0).setCell ⟨g, 1, none⟩ y1).setCell ⟨g, 2, none⟩ y2).setCell ⟨g, 3, none⟩ y3).setCell ⟨g, 4, none⟩ y4).setCell ⟨g, 5, none⟩ y5).cell? ⟨g, 5, none⟩ = some y5 ∧
    (((((((w.setCell ⟨g, 0, none⟩ y0).setCell ⟨g, 1, none⟩ y1).setCell ⟨g, 2, none⟩ y2).setCell ⟨g, 3, none⟩ y3).setCell ⟨g, 4, none⟩ y4).setCell ⟨g, 5, none⟩ y5).setCell ⟨g, 6, none⟩ y6).cell? ⟨g, 6, none⟩ = some y6 ∧
    ((((((((w.setCell ⟨g, 0, none⟩ y0).setCell ⟨g, 1, none⟩ y1).setCell ⟨g, 2, none⟩ y2).setCell ⟨g, 3, none⟩ y3).setCell ⟨g, 4, none⟩ y4).setCell ⟨g, 5, none⟩ y5).setCell ⟨g, 6, none⟩ y6).setCell ⟨g, 7, none⟩ y7).cell? ⟨g, 7, none⟩ = some y7 ∧
    (((((((((w.setCell ⟨g, 0, none⟩ y0).setCell ⟨g, 1, none⟩ y1).setCell ⟨g, 2, none⟩ y2).setCell ⟨g, 3, none⟩ y3).setCell ⟨g, 4, none⟩ y4).setCell ⟨g, 5, none⟩ y5).setCell ⟨g, 6, none⟩ y6).setCell ⟨g, 7, none⟩ y7).setCell ⟨g, 8, none⟩ y8).cell? ⟨g, 8, none⟩ = some y8 ∧
    ((((((((((w.setCell ⟨g, 0, none⟩ y0).setCell ⟨g, 1, none⟩ y1).setCell ⟨g, 2, none⟩ y2).setCell ⟨g, 3, none⟩ y3).setCell ⟨g, 4, none⟩ y4).setCell ⟨g, 5, none⟩ y5).setCell ⟨g, 6, none⟩ y6).setCell ⟨g, 7, none⟩ y7).setCell ⟨g, 8, none⟩ y8).setCell ⟨g, 9, none⟩ y9).cell? ⟨g, 9, none⟩ = some y9 := by
  have h0 : Blk (w.setCell ⟨g, 0, none⟩ y0) g t #[y0, x1, x2, x3, x4, x5, x6, x7, x8, x9] := by
    have := h.set_ 0 y0
    simpa using this
  have h1 : Blk ((w.setCell ⟨g, 0, none⟩ y0).setCell ⟨g, 1, none⟩ y1) g t #[y0, y1, x2, x3, x4, x5, x6, x7, x8, x9] := by
    have := h0.set_ 1 y1
    simpa using this
  have h2 : Blk (((w.setCell ⟨g, 0, none⟩ y0).setCell ⟨g, 1, none⟩ y1).setCell ⟨g, 2, none⟩ y2) g t #[y0, y1, y2, x3, x4, x5, x6, x7, x8, x9] := by
    have := h1.set_ 2 y2
    simpa using this
  have h3 : Blk ((((w.setCell ⟨g, 0, none⟩ y0).setCell ⟨g, 1, none⟩ y1).setCell ⟨g, 2, none⟩ y2).setCell ⟨g, 3, none⟩ y3) g t #[y0, y1, y2, y3, x4, x5, x6, x7, x8, x9] := by
    have := h2.set_ 3 y3
    simpa using this
  have h4 : Blk (((((w.setCell ⟨g, 0, none⟩ y0).setCell ⟨g, 1, none⟩ y1).setCell ⟨g, 2, none⟩ y2).setCell ⟨g, 3, none⟩ y3).setCell ⟨g, 4, none⟩ y4) g t #[y0, y1, y2, y3, y4, x5, x6, x7, x8, x9] := by
    have := h3.set_ 4 y4
    simpa using this
  have h5 : Blk ((((((w.setCell ⟨g, 0, none⟩ y0).setCell ⟨g, 1, none⟩ y1).setCell ⟨g, 2, none⟩ y2).setCell ⟨g, 3, none⟩ y3).setCell ⟨g, 4, none⟩ y4).setCell ⟨g, 5, none⟩ y5) g t #[y0, y1, y2, y3, y4, y5, x6, x7, x8, x9] := by
    have := h4.set_ 5 y5
    simpa using this
  have h6 : Blk (((((((w.setCell ⟨g, 0, none⟩ y0).setCell ⟨g, 1, none⟩ y1).setCell ⟨g, 2, none⟩ y2).setCell ⟨g, 3, none⟩ y3).setCell ⟨g, 4, none⟩ y4).setCell ⟨g, 5, none⟩ y5).setCell ⟨g, 6, none⟩ y6) g t #[y0, y1, y2, y3, y4, y5, y6, x7, x8, x9] := by
    have := h5.set_ 6 y6
    simpa using this
  have h7 : Blk ((((((((w.setCell ⟨g, 0, none⟩ y0).setCell ⟨g, 1, none⟩ y1).setCell ⟨g, 2, none⟩ y2).setCell ⟨g, 3, none⟩ y3).setCell ⟨g, 4, none⟩ y4).setCell ⟨g, 5, none⟩ y5).setCell ⟨g, 6, none⟩ y6).setCell ⟨g, 7, none⟩ y7) g t #[y0, y1, y2, y3, y4, y5, y6, y7, x8, x9] := by
    have := h6.set_ 7 y7
    simpa using this
  have h8 : Blk (((((((((w.setCell ⟨g, 0, none⟩ y0).setCell ⟨g, 1, none⟩ y1).setCell ⟨g, 2, none⟩ y2).setCell ⟨g, 3, none⟩ y3).setCell ⟨g, 4, none⟩ y4).setCell ⟨g, 5, none⟩ y5).setCell ⟨g, 6, none⟩ y6).setCell ⟨g, 7, none⟩ y7).setCell ⟨g, 8, none⟩ y8) g t #[y0, y1, y2, y3, y4, y5, y6, y7, y8, x9] := by
    have := h7.set_ 8 y8
    simpa using this
  have h9 : Blk ((((((((((w.setCell ⟨g, 0, none⟩ y0).setCell ⟨g, 1, none⟩ y1).setCell ⟨g, 2, none⟩ y2).setCell ⟨g, 3, none⟩ y3).setCell ⟨g, 4, none⟩ y4).setCell ⟨g, 5, none⟩ y5).setCell ⟨g, 6, none⟩ y6).setCell ⟨g, 7, none⟩ y7).setCell ⟨g, 8, none⟩ y8).setCell ⟨g, 9, none⟩ y9) g t #[y0, y1, y2, y3, y4, y5, y6, y7, y8, y9] := by
    have := h8.set_ 9 y9
    simpa using this
  exact ⟨h9, h0.cell 0, h1.cell 1, h2.cell 2, h3.cell 3, h4.cell 4, h5.cell 5, h6.cell 6, h7.cell 7, h8.cell 8, h9.cell 9⟩
theorem Blk.ten_far {g' : Nat} {t' : TypeId} {cs : Array Value} (h : Blk w g' t' cs) (hne : g' ≠ g) (y0 y1 y2 y3 y4 y5 y6 y7 y8 y9 : Value) :
    Blk ((((((((((w.setCell ⟨g, 0, none⟩ y0).setCell ⟨g, 1, none⟩ y1).setCell ⟨g, 2, none⟩ y2).setCell ⟨g, 3, none⟩ y3).setCell ⟨g, 4, none⟩ y4).setCell ⟨g, 5, none⟩ y5).setCell ⟨g, 6, none⟩ y6).setCell ⟨g, 7, none⟩ y7).setCell ⟨g, 8, none⟩ y8).setCell ⟨g, 9, none⟩ y9) g' t' cs :=
  (((((((((h.far hne y0).far hne y1).far hne y2).far hne y3).far hne y4).far hne y5).far hne y6).far hne y7).far hne y8).far hne y9
theorem below_ten {B : Nat} {w0 : World} (h : Below B w0 w) (hg : B ≤ g) (y0 y1 y2 y3 y4 y5 y6 y7 y8 y9 : Value) : Below B w0 ((((((((((w.setCell ⟨g, 0, none⟩ y0).setCell ⟨g, 1, none⟩ y1).setCell ⟨g, 2, none⟩ y2).setCell ⟨g, 3, none⟩ y3).setCell ⟨g, 4, none⟩ y4).setCell ⟨g, 5, none⟩ y5).setCell ⟨g, 6, none⟩ y6).setCell ⟨g, 7, none⟩ y7).setCell ⟨g, 8, none⟩ y8).setCell ⟨g, 9, none⟩ y9) :=
  (((((((((h.setCell (p := ⟨g, 0, none⟩) hg y0).setCell (p := ⟨g, 1, none⟩) hg y1).setCell (p := ⟨g, 2, none⟩) hg y2).setCell (p := ⟨g, 3, none⟩) hg y3).setCell (p := ⟨g, 4, none⟩) hg y4).setCell (p := ⟨g, 5, none⟩) hg y5).setCell (p := ⟨g, 6, none⟩) hg y6).setCell (p := ⟨g, 7, none⟩) hg y7).setCell (p := ⟨g, 8, none⟩) hg y8).setCell (p := ⟨g, 9, none⟩) hg y9
end
end Go.Proofs.YtigeipjkcidleaaGreatDoor

namespace Go.Proofs.YtigeipjkcidleaaGreatDoor
open Go.RowKit

/-- The series: column by column. -/
def serL (F : Nat → Nat → Nat) (Hr Wd : Nat) : List (List Nat) := (List.range (Wd - 1)).map fun k => (List.range (Hr - 1)).map fun i => F (i + 1) (k + 1)
def OfRet (kind : Int) (F : Nat → Nat → Nat) (Hr Wd : Nat) (w : World) (e : Ending) (w' : World) : Prop :=
  ∃ (NA : Option Addr) (nc : Nat) (SA : Option Addr) (sc : Nat), e = .returned (.tuple #[.agg #[.int .i64 kind, .slice NA (Hr - 1) nc, .slice SA (Wd - 1) sc], .int .i64 0]) ∧ Rows2 w' (.slice SA (Wd - 1) sc) ((serL F Hr Wd).map fun l => l.map fun (x : Nat) => (x : Int)) ∧ Below w.heap.size w w'
theorem rep_succ {α : Type} (n : Nat) (a : α) : List.replicate n a ++ [a] = List.replicate (n + 1) a := by rw [List.replicate_succ']
set_option maxRecDepth 100000 in
set_option maxHeartbeats 16000000 in
theorem of_any (node : Int) (name : ByteArray) (rows cols : Int) (A : Option Addr) (n c : Nat) (CL : List CC) (kind : Int) (H Wd : Nat) (F : Nat → Nat → Nat) (w : World) (he : VEnv w) (h : CCs w (.slice A n c) CL) (hn : n ≤ 1000000)
    (hk : kind = 0 ∨ kind = 3) (hk3 : kind = 3 → Wd = 2) (H2 : 2 ≤ H) (H201 : H ≤ 201) (W2 : 2 ≤ Wd) (W13 : Wd ≤ 13) (hr : (H : Int) ≤ rows) (hr2 : rows ≤ 1000000) (hc : (Wd : Int) ≤ cols) (hc2 : cols ≤ 1000000)
    (h0 : ∀ i : Nat, 1 ≤ i → i < H → lk CL i 0 = zVl) (hF : ∀ i k, F i k ≤ 83333333333)
    (hT : ∀ i k : Nat, 1 ≤ i → i < H → 1 ≤ k → k < Wd → ∀ W, Below w.heap.size w W → Calls Tryz.prog 40 #[(lk CL i k).v] W fun e w' => e = .returned (.tuple #[.int .i64 (F i k : Int), .bool true]) ∧ Below W.heap.size W w') :
    Calls Tryz.prog 12 #[.agg #[.int .i64 node, .string name, .int .i64 rows, .int .i64 cols, .slice A n c], .agg #[.int .i64 0, .int .i64 0, .int .i64 (H : Int), .int .i64 (Wd : Int)], .int .i64 kind] w (OfRet kind F H Wd w) := by
  have HSH := Lib.hid (show ∀ W, Below w.heap.size w W → Calls Tryz.prog 38 #[.agg #[.int .i64 0, .string ⟨#[]⟩, .string ⟨#[]⟩, .string ⟨#[]⟩, .bool false, .int .i64 0, .int .i64 0, .int .i64 0, .slice none 0 0]] W fun e w' => e = .returned (.tuple #[.string ⟨#[]⟩, .int .i64 0]) ∧ Below W.heap.size W w' from fun W hW => show0_any W (he.below hW))
  have HCE := Lib.hid fun W (hW : Below w.heap.size w W) r k => cell_any node name rows cols A n c CL r k W (h.below hW) hn
  have H00 := Lib.hid h0
  have HTT := Lib.hid hT
  have HFF := Lib.hid hF
  have HK3 := Lib.hid hk3
  have HKK := Lib.hid hk
  have HL0 := Lib.hid (((((Loc.start w).alloc' rfl 48 #[.int .i64 node, .string name, .int .i64 rows, .int .i64 cols, .slice A n c]).alloc' (g := w.heap.size + 1) (by simp) 55 #[.int .i64 0, .int .i64 0, .int .i64 (H : Int), .int .i64 (Wd : Int)]).alloc' (g := w.heap.size + 1 + 1) (by simp) 51 #[.int .i64 0, .slice none 0 0, .slice none 0 0]).alloc' (g := w.heap.size + 1 + 1 + 1) (by simp) 51 #[.int .i64 kind, .slice none 0 0, .slice none 0 0])
  clear he h h0 hT hF hk3 hk
  have kk : 1 ≤ H := by omega
  go_enter Tryz.func12, Tryz.ntmps12
  go_wp2_with fail
  have HN0 := Lib.hid (RowOf.nil (E := 9) (size := 1) (f := fun (s : ByteArray) => [Value.string s]) (((((w.alloc (.cells #[.int .i64 node, .string name, .int .i64 rows, .int .i64 cols, .slice A n c] 48)).alloc (.cells #[.int .i64 0, .int .i64 0, .int .i64 (H : Int), .int .i64 (Wd : Int)] 55)).alloc (.cells #[.int .i64 0, .slice none 0 0, .slice none 0 0] 51)).alloc (.cells #[.int .i64 kind, .slice none 0 0, .slice none 0 0] 51))) (w.heap.size + 4))
  go_loopw [9] (fun u wr => ∃ (i : Nat) (vn : Value), 1 ≤ i ∧ i ≤ H ∧ u = .int .i64 i ∧ Hid (Loc w [(w.heap.size + 1 + 1 + 1, 51, #[.int .i64 kind, vn, .slice none 0 0]), (w.heap.size + 1 + 1, 51, #[.int .i64 0, .slice none 0 0, .slice none 0 0]), (w.heap.size + 1, 55, #[.int .i64 0, .int .i64 0, .int .i64 (H : Int), .int .i64 (Wd : Int)]), (w.heap.size, 48, #[.int .i64 node, .string name, .int .i64 rows, .int .i64 cols, .slice A n c])] wr) ∧ Hid (RowOf 9 1 (fun (s : ByteArray) => [Value.string s]) wr (w.heap.size + 4) vn (List.replicate (i - 1) ⟨#[]⟩)) ∧ Hid (w.heap.size + 4 ≤ wr.heap.size)) (fun u _ => H - (intOf u).toNat)
  case atStart => exact ⟨1, _, by decide, by omega, rfl, HL0, HN0, Lib.hid (by simp)⟩
  case round =>
    clear HL0 HN0
    obtain ⟨i, vn, hi1, hi2, rfl, HL, HN, HSZ⟩ := hrel
    obtain ⟨c0, c1, c2, c3, c4, c5⟩ := (HL.out.blk (g := w.heap.size + 1 + 1 + 1) (t := 51) (cs := #[.int .i64 kind, vn, .slice none 0 0]) (by simp)).three
    obtain ⟨r0, r1, r2, r3, -, -, -, -⟩ := (HL.out.blk (g := w.heap.size + 1) (t := 55) (cs := #[.int .i64 0, .int .i64 0, .int .i64 (H : Int), .int .i64 (Wd : Int)]) (by simp)).four
    have hs := HL.out.blk (g := w.heap.size) (t := 48) (cs := #[.int .i64 node, .string name, .int .i64 rows, .int .i64 cols, .slice A n c]) (by simp)
    have s0 : wr.cell? ⟨w.heap.size, 0, none⟩ = some (.int .i64 node) := hs.cell 0
    have s1 : wr.cell? ⟨w.heap.size, 1, none⟩ = some (.string name) := hs.cell 1
    have s2 : wr.cell? ⟨w.heap.size, 2, none⟩ = some (.int .i64 rows) := hs.cell 2
    have s3 : wr.cell? ⟨w.heap.size, 3, none⟩ = some (.int .i64 cols) := hs.cell 3
    have s4 : wr.cell? ⟨w.heap.size, 4, none⟩ = some (.slice A n c) := hs.cell 4
    clear hs
    by_cases hlt : i < H
    · have HC0 := Lib.hid (show ∀ W, Below w.heap.size w W → Calls Tryz.prog 39 #[.agg #[.int .i64 node, .string name, .int .i64 rows, .int .i64 cols, .slice A n c], .int .i64 i, .int .i64 0] W fun e w' => e = .returned (.agg #[.int .i64 0, .string ⟨#[]⟩, .string ⟨#[]⟩, .string ⟨#[]⟩, .bool false, .int .i64 0, .int .i64 0, .int .i64 0, .slice none 0 0]) ∧ Below W.heap.size W w' from fun W hW => by
        have := HCE.out W hW i 0
        rw [H00.out i hi1 hlt] at this
        exact this)
      have hrl : (List.replicate (i - 1) (⟨#[]⟩ : ByteArray)).length ≤ 1000 := by simp; omega
      obtain ⟨An, nn, cn, rfl⟩ : ∃ A n c, vn = .slice A n c := by
        rcases HN.out.2 with ⟨rfl, -⟩ | ⟨g', cap, cur, rfl, -⟩
        · exact ⟨none, 0, 0, rfl⟩
        · exact ⟨_, _, _, rfl⟩
      go_upto_region 12 with (first
        | (go_at_call 39; (with_reducible refine (HC0.out _ HL.out.bel).mono ?_); rintro e w1 ⟨rfl, hb⟩; have HL1 := Lib.hid (HL.out.step hb); have HN1 := Lib.hid (HN.out.later hb); have HSZ1 := Lib.hid (Nat.le_trans HSZ.out hb.size); clear hb)
        | (go_at_call 38; (with_reducible refine (HSH.out _ HL1.out.bel).mono ?_); rintro e w2 ⟨rfl, hb⟩; have HL2 := Lib.hid (HL1.out.step hb); have HN2 := Lib.hid (HN1.out.later hb); have HSZ2 := Lib.hid (Nat.le_trans HSZ1.out hb.size); clear hb))
      clear c0 c1 c2 c3 c4 c5 r0 r1 r2 r3 s0 s1 s2 s3 s4
      obtain ⟨c0, c1, c2, c3, c4, c5⟩ := (HL2.out.blk (g := w.heap.size + 1 + 1 + 1) (t := 51) (cs := #[.int .i64 kind, (.slice An nn cn), .slice none 0 0]) (by simp)).three
      obtain ⟨r0, r1, r2, r3, -, -, -, -⟩ := (HL2.out.blk (g := w.heap.size + 1) (t := 55) (cs := #[.int .i64 0, .int .i64 0, .int .i64 (H : Int), .int .i64 (Wd : Int)]) (by simp)).four
      have hs := HL2.out.blk (g := w.heap.size) (t := 48) (cs := #[.int .i64 node, .string name, .int .i64 rows, .int .i64 cols, .slice A n c]) (by simp)
      have s0 : w2.cell? ⟨w.heap.size, 0, none⟩ = some (.int .i64 node) := hs.cell 0
      have s1 : w2.cell? ⟨w.heap.size, 1, none⟩ = some (.string name) := hs.cell 1
      have s2 : w2.cell? ⟨w.heap.size, 2, none⟩ = some (.int .i64 rows) := hs.cell 2
      have s3 : w2.cell? ⟨w.heap.size, 3, none⟩ = some (.int .i64 cols) := hs.cell 3
      have s4 : w2.cell? ⟨w.heap.size, 4, none⟩ = some (.slice A n c) := hs.cell 4
      clear hs
      go_wp2_with (at_builtin; go_loud (refine wp_row1 49 9 1 16 (fun (s : ByteArray) => [Value.string s]) _ Tryz.underlying49 str_info rfl (by decide) str_len rfl _ _ rfl (w.heap.size + 4) _ _ rfl HN2.out ⟨#[]⟩ _ ?_ rfl (by omega) (by unfold maxLen; omega) HSZ2.out ?_); (rfl); intro v3 w3 ho hb hg; obtain ⟨gx, cx, rfl, -, -⟩ := RowOf.form ho (by simp); have HL3 := Lib.hid (HL2.out.stepB hb (by omega) (fun x hx => by simp only [List.mem_cons, List.not_mem_nil, or_false] at hx; rcases hx with rfl | rfl | rfl | rfl <;> (dsimp only; omega))); have HN3 := Lib.hid ho; have HSZ3 := Lib.hid (Nat.le_trans HSZ2.out hb.size); clear ho hb hg; clear c0 c1 c2 c3 c4 c5 r0 r1 r2 r3 s0 s1 s2 s3 s4; obtain ⟨c0, c1, c2, c3, c4, c5⟩ := (HL3.out.blk (g := w.heap.size + 1 + 1 + 1) (t := 51) (cs := #[.int .i64 kind, (.slice An nn cn), .slice none 0 0]) (by simp)).three; obtain ⟨r0, r1, r2, r3, -, -, -, -⟩ := (HL3.out.blk (g := w.heap.size + 1) (t := 55) (cs := #[.int .i64 0, .int .i64 0, .int .i64 (H : Int), .int .i64 (Wd : Int)]) (by simp)).four; have hs := HL3.out.blk (g := w.heap.size) (t := 48) (cs := #[.int .i64 node, .string name, .int .i64 rows, .int .i64 cols, .slice A n c]) (by simp); have s0 : w3.cell? ⟨w.heap.size, 0, none⟩ = some (.int .i64 node) := hs.cell 0; have s1 : w3.cell? ⟨w.heap.size, 1, none⟩ = some (.string name) := hs.cell 1; have s2 : w3.cell? ⟨w.heap.size, 2, none⟩ = some (.int .i64 rows) := hs.cell 2; have s3 : w3.cell? ⟨w.heap.size, 3, none⟩ = some (.int .i64 cols) := hs.cell 3; have s4 : w3.cell? ⟨w.heap.size, 4, none⟩ = some (.slice A n c) := hs.cell 4; clear hs)
      have hle : (List.replicate (i - 1) (⟨#[]⟩ : ByteArray) ++ [(⟨#[]⟩ : ByteArray)]).length = i := by simp; omega
      have hn3 := HN3.out
      rw [hle, rep_succ, show i - 1 + 1 = i + 1 - 1 by omega] at hn3
      have HN4 := Lib.hid (hn3.far (p := ⟨w.heap.size + 1 + 1 + 1, 1, none⟩) (fun g hg => by have := (RowOf.lt hn3 g hg).1; dsimp only; omega) (.slice (some ⟨gx, 0, none⟩) i cx))
      have HL4 := Lib.hid (show Loc w [(w.heap.size + 1 + 1 + 1, 51, #[.int .i64 kind, (.slice (some ⟨gx, 0, none⟩) i cx), .slice none 0 0]), (w.heap.size + 1 + 1, 51, #[.int .i64 0, .slice none 0 0, .slice none 0 0]), (w.heap.size + 1, 55, #[.int .i64 0, .int .i64 0, .int .i64 (H : Int), .int .i64 (Wd : Int)]), (w.heap.size, 48, #[.int .i64 node, .string name, .int .i64 rows, .int .i64 cols, .slice A n c])] (w3.setCell ⟨w.heap.size + 1 + 1 + 1, 1, none⟩ (.slice (some ⟨gx, 0, none⟩) i cx)) from HL3.out.set1 (i := 1) (fun x hx => by simp only [List.mem_cons, List.not_mem_nil, or_false] at hx; rcases hx with rfl | rfl | rfl <;> (dsimp only; omega)) (.slice (some ⟨gx, 0, none⟩) i cx))
      have HSZ4 := Lib.hid (show w.heap.size + 4 ≤ (w3.setCell ⟨w.heap.size + 1 + 1 + 1, 1, none⟩ (.slice (some ⟨gx, 0, none⟩) i cx)).heap.size by simpa [World.setCell] using HSZ3.out)
      go_roundw
      case rel => exact ⟨i + 1, _, by omega, by omega, by go_num, HL4, HN4, HSZ4⟩
      case measure => simp [intOf]; omega
    · obtain rfl : H = i := by omega
      obtain ⟨NA, nc, rfl⟩ : ∃ A c, vn = .slice A (H - 1) c := by
        rcases HN.out.2 with ⟨rfl, h9⟩ | ⟨g', cap, cur, rfl, -⟩
        · simp only [List.length_replicate] at h9
          exact ⟨none, 0, by rw [h9]⟩
        · exact ⟨some ⟨g', 0, none⟩, cap, by simp⟩
      have HS0 := Lib.hid (SerAt.nil wr (w.heap.size + 4))
      go_wp2_with fail
      clear c0 c1 c2 c3 c4 c5 r0 r1 r2 r3 s0 s1 s2 s3 s4
      clear HN
      go_loopw [12] (fun u wr => ∃ (k : Nat) (vs : Value), 1 ≤ k ∧ k ≤ Wd ∧ u = .int .i64 k ∧ Hid (Loc w [(w.heap.size + 1 + 1 + 1, 51, #[.int .i64 kind, .slice NA (H - 1) nc, vs]), (w.heap.size + 1 + 1, 51, #[.int .i64 0, .slice none 0 0, .slice none 0 0]), (w.heap.size + 1, 55, #[.int .i64 0, .int .i64 0, .int .i64 (H : Int), .int .i64 (Wd : Int)]), (w.heap.size, 48, #[.int .i64 node, .string name, .int .i64 rows, .int .i64 cols, .slice A n c])] wr) ∧ Hid (SerAt wr (w.heap.size + 4) vs (serL F H k)) ∧ Hid (w.heap.size + 4 ≤ wr.heap.size)) (fun u _ => Wd - (intOf u).toNat)
      case atStart => exact ⟨1, _, by decide, by omega, rfl, HL, HS0, HSZ⟩
      case round =>
        clear HL HS0 HSZ
        obtain ⟨k, vs, hk1, hk2, rfl, HL, HSE, HSZ⟩ := hrel
        obtain ⟨SA, sc, hvs⟩ := HSE.out.shape
        obtain ⟨sn, hsn⟩ : ∃ sn, sn = (serL F H k).length := ⟨_, rfl⟩
        rw [← hsn] at hvs
        subst hvs
        have HSN := Lib.hid hsn
        clear hsn
        obtain ⟨wo, rfl⟩ : ∃ wo : World, wo = wr := ⟨_, rfl⟩
        obtain ⟨c0, c1, c2, c3, c4, c5⟩ := (HL.out.blk (g := w.heap.size + 1 + 1 + 1) (t := 51) (cs := #[.int .i64 kind, (.slice NA (H - 1) nc), (.slice SA sn sc)]) (by simp)).three
        obtain ⟨r0, r1, r2, r3, -, -, -, -⟩ := (HL.out.blk (g := w.heap.size + 1) (t := 55) (cs := #[.int .i64 0, .int .i64 0, .int .i64 (H : Int), .int .i64 (Wd : Int)]) (by simp)).four
        have hs := HL.out.blk (g := w.heap.size) (t := 48) (cs := #[.int .i64 node, .string name, .int .i64 rows, .int .i64 cols, .slice A n c]) (by simp)
        have s0 : wo.cell? ⟨w.heap.size, 0, none⟩ = some (.int .i64 node) := hs.cell 0
        have s1 : wo.cell? ⟨w.heap.size, 1, none⟩ = some (.string name) := hs.cell 1
        have s2 : wo.cell? ⟨w.heap.size, 2, none⟩ = some (.int .i64 rows) := hs.cell 2
        have s3 : wo.cell? ⟨w.heap.size, 3, none⟩ = some (.int .i64 cols) := hs.cell 3
        have s4 : wo.cell? ⟨w.heap.size, 4, none⟩ = some (.slice A n c) := hs.cell 4
        clear hs
        by_cases hlk : k < Wd
        · have HR0 := Lib.hid (R1.nil (E := 3) (K := .i64) wo wo.heap.size)
          go_wp2_with fail
          clear c0 c1 c2 c3 c4 c5 r0 r1 r2 r3 s0 s1 s2 s3 s4
          go_loopw [13, 14] (fun u13 u14 wr => ∃ (j : Nat) (v : Value), 1 ≤ j ∧ j ≤ H ∧ u14 = .int .i64 j ∧ u13 = v ∧ Hid (Loc w [(w.heap.size + 1 + 1 + 1, 51, #[.int .i64 kind, .slice NA (H - 1) nc, .slice SA sn sc]), (w.heap.size + 1 + 1, 51, #[.int .i64 0, .slice none 0 0, .slice none 0 0]), (w.heap.size + 1, 55, #[.int .i64 0, .int .i64 0, .int .i64 (H : Int), .int .i64 (Wd : Int)]), (w.heap.size, 48, #[.int .i64 node, .string name, .int .i64 rows, .int .i64 cols, .slice A n c])] wr) ∧ Hid (R1 3 .i64 wr wo.heap.size v ((List.range (j - 1)).map fun x => F (x + 1) k)) ∧ Hid (Below wo.heap.size wo wr)) (fun _ u _ => H - (intOf u).toNat)
          case atStart => exact ⟨1, _, by decide, by omega, rfl, rfl, HL, HR0, Lib.hid (Below.refl _ _)⟩
          case round =>
            clear HR0
            obtain ⟨j, v, hj1, hj2, rfl, hv, HLj, HR, HB⟩ := hrel
            subst hv
            obtain ⟨c0, c1, c2, c3, c4, c5⟩ := (HLj.out.blk (g := w.heap.size + 1 + 1 + 1) (t := 51) (cs := #[.int .i64 kind, (.slice NA (H - 1) nc), (.slice SA sn sc)]) (by simp)).three
            obtain ⟨r0, r1, r2, r3, -, -, -, -⟩ := (HLj.out.blk (g := w.heap.size + 1) (t := 55) (cs := #[.int .i64 0, .int .i64 0, .int .i64 (H : Int), .int .i64 (Wd : Int)]) (by simp)).four
            have hs := HLj.out.blk (g := w.heap.size) (t := 48) (cs := #[.int .i64 node, .string name, .int .i64 rows, .int .i64 cols, .slice A n c]) (by simp)
            have s0 : wr.cell? ⟨w.heap.size, 0, none⟩ = some (.int .i64 node) := hs.cell 0
            have s1 : wr.cell? ⟨w.heap.size, 1, none⟩ = some (.string name) := hs.cell 1
            have s2 : wr.cell? ⟨w.heap.size, 2, none⟩ = some (.int .i64 rows) := hs.cell 2
            have s3 : wr.cell? ⟨w.heap.size, 3, none⟩ = some (.int .i64 cols) := hs.cell 3
            have s4 : wr.cell? ⟨w.heap.size, 4, none⟩ = some (.slice A n c) := hs.cell 4
            clear hs
            by_cases hlj : j < H
            · obtain ⟨vv, hvv⟩ : ∃ vv, vv = lk CL j k := ⟨_, rfl⟩
              have HC0 := Lib.hid (show ∀ W, Below w.heap.size w W → Calls Tryz.prog 39 #[.agg #[.int .i64 node, .string name, .int .i64 rows, .int .i64 cols, .slice A n c], .int .i64 j, .int .i64 k] W fun e w' => e = .returned vv.v ∧ Below W.heap.size W w' from fun W hW => by rw [hvv]; exact HCE.out W hW j k)
              have HT0 := Lib.hid (show ∀ W, Below w.heap.size w W → Calls Tryz.prog 40 #[vv.v] W fun e w' => e = .returned (.tuple #[.int .i64 (F j k : Int), .bool true]) ∧ Below W.heap.size W w' from fun W hW => by rw [hvv]; exact HTT.out j k hj1 hlj hk1 hlk W hW)
              obtain ⟨fv, hfv⟩ : ∃ fv, fv = F j k := ⟨_, rfl⟩
              have hfb := HFF.out j k
              rw [← hfv] at HT0 hfb
              have HFV := Lib.hid hfv
              clear hvv hfv
              have hf1 : (fv : Int) ≤ 83333333333 := by omega
              have hf0 : (0 : Int) ≤ (fv : Int) := by omega
              go_upto_region 23 with (first
                | (go_at_call 39; (with_reducible refine (HC0.out _ HLj.out.bel).mono ?_); rintro e w1 ⟨rfl, hb⟩; have HL1 := Lib.hid (HLj.out.step hb); have HR1 := Lib.hid (HR.out.later hb); have HB1 := Lib.hid (HB.out.trans (hb.mono HB.out.size)); clear hb)
                | (go_at_call 40; (with_reducible refine (HT0.out _ HL1.out.bel).mono ?_); rintro e w2 ⟨rfl, hb⟩; have HL2 := Lib.hid (HL1.out.step hb); have HR2 := Lib.hid (HR1.out.later hb); have HB2 := Lib.hid (HB1.out.trans (hb.mono HB1.out.size)); clear hb))
              have hjl : ((List.range (j - 1)).map fun x => F (x + 1) k).length ≤ 1000 := by simp; omega
              clear c0 c1 c2 c3 c4 c5 r0 r1 r2 r3 s0 s1 s2 s3 s4
              go_wp2_with (at_builtin; go_loud (refine wp_appI rfl _ _ rfl wo.heap.size _ _ rfl HR2.out _ fv rfl rfl (by omega) HB2.out.size ?_); intro v3 w3 ho hb hg; have HR3 := Lib.hid ho; have HL3 := Lib.hid (HL2.out.stepB hb (by have := HSZ.out; omega) (fun x hx => by simp only [List.mem_cons, List.not_mem_nil, or_false] at hx; have := HSZ.out; rcases hx with rfl | rfl | rfl | rfl <;> (dsimp only; omega))); have HB3 := Lib.hid (HB2.out.trans hb); clear ho hb hg)
              have HR4 := Lib.hid (show R1 3 .i64 w3 wo.heap.size v3 ((List.range (j + 1 - 1)).map fun x => F (x + 1) k) from by
                have := HR3.out
                rw [HFV.out] at this
                rw [show j + 1 - 1 = (j - 1) + 1 by omega, List.range_succ, List.map_append]
                simp only [List.map_cons, List.map_nil]
                rw [show j - 1 + 1 = j by omega]
                exact this)
              go_roundw
              case rel => exact ⟨j + 1, _, by omega, by omega, by go_num, rfl, HL3, HR4, HB3⟩
              case measure => simp [intOf]; omega
            · obtain rfl : H = j := by omega
              obtain ⟨A8, c8, hv8⟩ := HR.out.shape
              simp only [List.length_map, List.length_range] at hv8
              subst hv8
              have HSE1 := Lib.hid (HSE.out.later HB.out)
              have HSZ1 := Lib.hid (Nat.le_trans HSZ.out HB.out.size)
              obtain ⟨Hh, hh1, hh2, hh3⟩ := HSE1.out.row
              have HH2 := Lib.hid hh2
              have HH3 := Lib.hid hh3
              have hhl : Hh.length ≤ 1000 := by rw [hh1]; simp [serL]; omega
              have HH1 := Lib.hid hh1
              clear hh1 hh2 hh3
              go_wp2_with (at_builtin; go_loud (refine wp_row1 43 22 1 24 (fun (h : Hd) => [hdV h]) _ Tryz.underlying43 ser_info rfl (by decide) ser_len rfl _ _ rfl (w.heap.size + 4) _ _ rfl HH2.out (A8, H - 1, c8) _ ?_ rfl (by omega) (by unfold maxLen; omega) HSZ1.out ?_); (rfl); intro v3 w3 ho hb hg; obtain ⟨gx, cx, rfl, -, -⟩ := RowOf.form ho (by simp); have HO3 := Lib.hid ho; have HKI := Lib.hid ((KI.alloc wr _).trans (KI.grow (HH2.out.alloc _) (by decide) hg)); have HL3 := Lib.hid (HLj.out.stepB hb (by omega) (fun x hx => by simp only [List.mem_cons, List.not_mem_nil, or_false] at hx; rcases hx with rfl | rfl | rfl | rfl <;> (dsimp only; omega))); have HSZ3 := Lib.hid (Nat.le_trans HSZ1.out hb.size); clear ho hb hg; clear c0 c1 c2 c3 c4 c5 r0 r1 r2 r3 s0 s1 s2 s3 s4; obtain ⟨c0, c1, c2, c3, c4, c5⟩ := (HL3.out.blk (g := w.heap.size + 1 + 1 + 1) (t := 51) (cs := #[.int .i64 kind, (.slice NA (H - 1) nc), (.slice SA sn sc)]) (by simp)).three; obtain ⟨r0, r1, r2, r3, -, -, -, -⟩ := (HL3.out.blk (g := w.heap.size + 1) (t := 55) (cs := #[.int .i64 0, .int .i64 0, .int .i64 (H : Int), .int .i64 (Wd : Int)]) (by simp)).four; have hs := HL3.out.blk (g := w.heap.size) (t := 48) (cs := #[.int .i64 node, .string name, .int .i64 rows, .int .i64 cols, .slice A n c]) (by simp); have s0 : w3.cell? ⟨w.heap.size, 0, none⟩ = some (.int .i64 node) := hs.cell 0; have s1 : w3.cell? ⟨w.heap.size, 1, none⟩ = some (.string name) := hs.cell 1; have s2 : w3.cell? ⟨w.heap.size, 2, none⟩ = some (.int .i64 rows) := hs.cell 2; have s3 : w3.cell? ⟨w.heap.size, 3, none⟩ = some (.int .i64 cols) := hs.cell 3; have s4 : w3.cell? ⟨w.heap.size, 4, none⟩ = some (.slice A n c) := hs.cell 4; clear hs)
              have hx := HH3.out (A8, H - 1, c8) ((List.range (H - 1)).map fun x => F (x + 1) k) w3 _ (HR.out.mono HSZ.out) HO3.out HKI.out
              rw [show (Hh ++ [(A8, H - 1, c8)]).length = Hh.length + 1 by simp, show serL F H k ++ [(List.range (H - 1)).map fun x => F (x + 1) k] = serL F H (k + 1) from by
                unfold serL
                rw [show k + 1 - 1 = (k - 1) + 1 by omega, List.range_succ, List.map_append]
                simp only [List.map_cons, List.map_nil]
                rw [show k - 1 + 1 = k by omega]] at hx
              have HSE4 := Lib.hid (hx.far (p := ⟨w.heap.size + 1 + 1 + 1, 2, none⟩) (by dsimp only; omega) (.slice (some ⟨gx, 0, none⟩) (Hh.length + 1) cx))
              have HL4 := Lib.hid (show Loc w [(w.heap.size + 1 + 1 + 1, 51, #[.int .i64 kind, .slice NA (H - 1) nc, .slice (some ⟨gx, 0, none⟩) (Hh.length + 1) cx]), (w.heap.size + 1 + 1, 51, #[.int .i64 0, .slice none 0 0, .slice none 0 0]), (w.heap.size + 1, 55, #[.int .i64 0, .int .i64 0, .int .i64 (H : Int), .int .i64 (Wd : Int)]), (w.heap.size, 48, #[.int .i64 node, .string name, .int .i64 rows, .int .i64 cols, .slice A n c])] (w3.setCell ⟨w.heap.size + 1 + 1 + 1, 2, none⟩ (.slice (some ⟨gx, 0, none⟩) (Hh.length + 1) cx)) from HL3.out.set1 (i := 2) (fun x hx => by simp only [List.mem_cons, List.not_mem_nil, or_false] at hx; rcases hx with rfl | rfl | rfl <;> (dsimp only; omega)) (.slice (some ⟨gx, 0, none⟩) (Hh.length + 1) cx))
              have HSZ4 := Lib.hid (show w.heap.size + 4 ≤ (w3.setCell ⟨w.heap.size + 1 + 1 + 1, 2, none⟩ (.slice (some ⟨gx, 0, none⟩) (Hh.length + 1) cx)).heap.size by simpa [World.setCell] using HSZ3.out)
              go_roundw
              case rel => exact ⟨k + 1, _, by omega, by omega, by go_num, HL4, HSE4, HSZ4⟩
              case measure => simp [intOf]; omega
        · obtain rfl : Wd = k := by omega
          have hsn : sn = Wd - 1 := by rw [HSN.out]; simp [serL]
          subst hsn
          have HCH := Lib.hid (show ChOk kind (H - 1) ((serL F H Wd).map fun l => l.map fun (x : Nat) => (x : Int)) 83333333333 from ⟨HKK.out, by omega, by omega, by simp [serL]; omega, by simp [serL]; omega, fun e => by simp [serL, HK3.out e], fun l hl => by
              obtain ⟨l1, h1, rfl⟩ := List.mem_map.1 hl
              obtain ⟨k1, -, rfl⟩ := List.mem_map.1 h1
              simp, fun l hl x hx => by
              obtain ⟨l1, h1, rfl⟩ := List.mem_map.1 hl
              obtain ⟨k1, -, rfl⟩ := List.mem_map.1 h1
              obtain ⟨y, hy, rfl⟩ := List.mem_map.1 hx
              obtain ⟨i1, -, rfl⟩ := List.mem_map.1 hy
              have := HFF.out (i1 + 1) (k1 + 1)
              omega, by decide⟩)
          have HCC := Lib.hid (ccheck_any kind NA (H - 1) nc SA (Wd - 1) sc _ _ wo HCH.out HSE.out.rows2)
          go_wp2_with (go_at_call 41; (with_reducible refine HCC.out.mono ?_); rintro e w1 ⟨rfl, hb⟩; have HL1 := Lib.hid (HL.out.step hb); have HSE1 := Lib.hid (HSE.out.later hb); clear hb; clear c0 c1 c2 c3 c4 c5 r0 r1 r2 r3 s0 s1 s2 s3 s4; obtain ⟨c0, c1, c2, c3, c4, c5⟩ := (HL1.out.blk (g := w.heap.size + 1 + 1 + 1) (t := 51) (cs := #[.int .i64 kind, (.slice NA (H - 1) nc), (.slice SA (Wd - 1) sc)]) (by simp)).three; obtain ⟨r0, r1, r2, r3, -, -, -, -⟩ := (HL1.out.blk (g := w.heap.size + 1) (t := 55) (cs := #[.int .i64 0, .int .i64 0, .int .i64 (H : Int), .int .i64 (Wd : Int)]) (by simp)).four; have hs := HL1.out.blk (g := w.heap.size) (t := 48) (cs := #[.int .i64 node, .string name, .int .i64 rows, .int .i64 cols, .slice A n c]) (by simp); have s0 : w1.cell? ⟨w.heap.size, 0, none⟩ = some (.int .i64 node) := hs.cell 0; have s1 : w1.cell? ⟨w.heap.size, 1, none⟩ = some (.string name) := hs.cell 1; have s2 : w1.cell? ⟨w.heap.size, 2, none⟩ = some (.int .i64 rows) := hs.cell 2; have s3 : w1.cell? ⟨w.heap.size, 3, none⟩ = some (.int .i64 cols) := hs.cell 3; have s4 : w1.cell? ⟨w.heap.size, 4, none⟩ = some (.slice A n c) := hs.cell 4; clear hs; have bz := HL1.out.blk (g := w.heap.size + 1 + 1) (t := 51) (cs := #[.int .i64 0, .slice none 0 0, .slice none 0 0]) (by simp); obtain ⟨z0, z1, z2, z3, z4, z5⟩ := bz.three; obtain ⟨hbl, y0, y1, y2⟩ := bz.three_set (.int .i64 kind) (.slice NA (H - 1) nc) (.slice SA (Wd - 1) sc); have HBL := Lib.hid hbl; clear hbl bz)
          obtain ⟨q0, q1, q2, -, -, -⟩ := HBL.out.three
          refine bodyPost_ret (v := .tuple #[.agg #[.int .i64 kind, .slice NA (H - 1) nc, .slice SA (Wd - 1) sc], .int .i64 0]) (by simp [results, Tryz.results12, go_sem, q0, q1, q2]) rfl ⟨NA, nc, SA, sc, rfl, ?_, ?_⟩
          · exact (((HSE1.out.far (p := ⟨w.heap.size + 1 + 1, 0, none⟩) (by dsimp only; omega) _).far (p := ⟨w.heap.size + 1 + 1, 1, none⟩) (by dsimp only; omega) _).far (p := ⟨w.heap.size + 1 + 1, 2, none⟩) (by dsimp only; omega) _).rows2
          · exact below_three HL1.out.bel (by omega) _ _ _
end Go.Proofs.YtigeipjkcidleaaGreatDoor
