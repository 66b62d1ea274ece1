/- Plain: the keys of a pivot table, a key's place, its records. -/
import Derived.Test.YtcnlonaighlmbaaGreatDoorHae
import Derived.Test.YtcnlonaighlmbaaGreatDoorHah
import Derived.Test.YtcnlonaighlmbaaGreatDoorHaf
import Derived.Test.YtcnlonaighlmbaaGreatDoorHaa
import Derived.Test.YtcnlonaighlmbaaGreatDoorLoc
import Derived.Test.YtcnlonaighlmbaaGreatDoorHag
import Derived.Deep.RegionLaw
import Derived.Deep.AppendLies
import Derived.Deep.DeepCutAuto
import Derived.Test.YtcnlonaighlmbaaGreatDoorHaj
import Derived.Test.YtcnlonaighlmbaaGreatDoorMod
set_option linter.unusedSimpArgs false
set_option linter.unusedVariables false
namespace Go.Proofs.YtcnlonaighlmbaaGreatDoor
open Go.RowKit

instance : Inhabited Vl := ⟨⟨0, ⟨#[]⟩, ⟨#[]⟩, ⟨#[]⟩, false, 0, 0, 0, none, 0, 0⟩⟩
/-- A record. -/
structure Rm where
  at_ : Nat
  row : Nat
  col : Nat
  v : Vl
def rmC (r : Rm) : List Value := .int .i64 r.at_ :: .int .i64 r.row :: .int .i64 r.col :: r.v.cs.toList
end Go.Proofs.YtcnlonaighlmbaaGreatDoor

namespace Go.Proofs.YtcnlonaighlmbaaGreatDoor
open Go.RowKit

section
variable {α β : Type} {E E' : TypeId} {size size' : Nat} {f : α → List Value} {f' : β → List Value} {w w' : World} {b b' : Nat} {v v' : Value} {l : List α} {l' : List β}
theorem RowOf.mono (h : RowOf E size f w b v l) (hb : b' ≤ b) : RowOf E size f w b' v l := by
  refine ⟨h.1, ?_⟩
  rcases h.2 with h0 | ⟨g, cap, cur, e, a1, a2⟩
  · exact .inl h0
  · exact .inr ⟨g, cap, cur, e, Nat.le_trans hb a1, a2⟩
end
theorem Loc.cons {w W : World} {L : List (Nat × TypeId × Array Value)} {g : Nat} {t : TypeId} {cs : Array Value} (h : Loc w L W) (hg : w.heap.size ≤ g) (hb : Blk W g t cs) : Loc w ((g, t, cs) :: L) W :=
  ⟨h.1, fun x hx => by
    rcases List.mem_cons.1 hx with rfl | hx
    · exact ⟨hg, hb⟩
    · exact h.2 x hx⟩
/-- A key of one item, in a block of its own. -/
abbrev KO (W : World) (b : Nat) (x : SV) (u : Vl) : Prop := RowOf 26 9 csV W b (sv3 x) [u]
theorem csV_len (u : Vl) : (csV u).length = 9 := rfl
theorem csV_one (u : Vl) : (csV u).length = 9 ∧ ∀ x ∈ csV u, x.oneCell' = true := ⟨rfl, by simp [csV, Vl.cs, Value.oneCell']⟩
theorem val_info : (Tryz.prog.info? 26).map (fun i => (i.zero, i.size, i.bytes)) = some (some (.agg #[.int .i64 0, .string ⟨#[]⟩, .string ⟨#[]⟩, .string ⟨#[]⟩, .bool false, .int .i64 0, .int .i64 0, .int .i64 0, .slice none 0 0]), 9, 112) := by kernel_rfl
theorem RowOf.kr {W : World} {b : Nat} {x : SV} {u : Vl} (h : KO W b x u) : KR W x u := RowOf.reads h csV_len
/-- Slices of slices read as keys. -/
def KRows (W : World) (v : Value) (K : List Vl) : Prop := ∃ H : List SV, Reads 1 (fun x => [sv3 x]) W v H ∧ All2 (KR W) H K
theorem KRows.below {W W' : World} {v : Value} {K : List Vl} (h : KRows W v K) (hb : Below W.heap.size W W') : KRows W' v K := by
  obtain ⟨H, h1, h2⟩ := h
  exact ⟨H, h1.below hb, h2.imp fun _ _ _ hk => hk.below hb⟩
theorem KRows.shape {W : World} {v : Value} {K : List Vl} (h : KRows W v K) : ∃ A c, v = .slice A K.length c := by
  obtain ⟨H, h1, h2⟩ := h
  obtain ⟨A, c, e⟩ := h1.shape
  exact ⟨A, c, by rw [e, h2.len]⟩
theorem KRows.get {W : World} {A : Option Addr} {n c : Nat} {K : List Vl} (h : KRows W (.slice A n c) K) : K.length = n ∧ (0 < n → ∃ b o, A = some ⟨b, o, none⟩ ∧ b < W.heap.size ∧ ∀ i (hi : i < K.length), ∃ x : SV, W.cell? ⟨b, o + i, none⟩ = some (sv3 x) ∧ KR W x K[i]!) := by
  obtain ⟨H, ⟨A', c', e, h0, h1, h3⟩, h2⟩ := h
  injection e with e1 e2 e3
  subst e1 e3
  have hl := h2.len
  refine ⟨by omega, fun hn => ?_⟩
  obtain ⟨b, o, e4, hb, hc⟩ := h3 (by omega)
  refine ⟨b, o, e4, hb, fun i hi => ⟨H[i]'(by omega), ?_, ?_⟩⟩
  · have := hc i (by omega) 0 (by decide)
    rw [show o + (i * 1 + 0) = o + i by omega] at this
    exact this
  · rw [getElem!_pos K i hi]
    exact h2.get i (by omega) hi
/-- Keys whose blocks are known by their types. -/
def KT (W : World) (v : Value) (K : List Vl) : Prop :=
  ∃ (g c : Nat) (H : List SV), v = .slice (some ⟨g, 0, none⟩) H.length c ∧ (∃ cs, Blk W g 24 cs) ∧ Reads 1 (fun x => [sv3 x]) W v H ∧ All2 (fun x u => ∃ b, KO W b x u) H K
theorem KT.rows {W : World} {v : Value} {K : List Vl} (h : KT W v K) : KRows W v K := by
  obtain ⟨g, c, H, -, -, h1, h2⟩ := h
  exact ⟨H, h1, h2.imp fun x _ u ⟨b, hk⟩ => RowOf.kr hk⟩
theorem KT.chg {W W' : World} {v : Value} {K : List Vl} {G : List Nat} (h : KT W v K) (hc : Chg W.heap.size G W W') (hg : ∀ g ∈ G, ∃ t cs, Blk W g t cs ∧ t ≠ 26 ∧ t ≠ 24) : KT W' v K := by
  obtain ⟨g, c, H, rfl, ⟨cs, hb⟩, ⟨A', c', e, h0, h1, h3⟩, h2⟩ := h
  have hng : g ∉ G := fun hm => by
    obtain ⟨t, cs', hb', -, hne⟩ := hg g hm
    exact Blk.ne_ hb' hb hne rfl
  injection e with e1 e2 e3
  subst e1 e3
  refine ⟨g, c, H, rfl, ⟨cs, hc.blk hb hb.lt hng⟩, ⟨_, c, rfl, h0, h1, fun hl => ?_⟩, h2.imp fun x _ u ⟨b, hk⟩ => ⟨b, RowOf.chg hk hc fun k e => ⟨(RowOf.lt hk k e).2, fun hm => by
    obtain ⟨t, cs', hb', hne, -⟩ := hg k hm
    rcases hk.2 with ⟨h0, _⟩ | ⟨g1, cap, cur, h1, _, h2, _⟩
    · rw [h0] at e; cases e
    · rw [h1] at e
      injection e with e
      subst e
      exact Blk.ne_ hb' (show Blk W _ _ cur from h2) hne rfl⟩⟩⟩
  obtain ⟨b, o, e, hbl, hcell⟩ := h3 hl
  injection e with e
  injection e with e4 e5
  subst e4 e5
  refine ⟨g, 0, rfl, Nat.lt_of_lt_of_le hbl hc.size, fun i hi j hj => ?_⟩
  have := hcell i hi j hj
  rw [← this]
  exact World.cell?_of_block (hc.block g hb.lt hng)
theorem KT.later {W W' : World} {v : Value} {K : List Vl} (h : KT W v K) (hb : Below W.heap.size W W') : KT W' v K := h.chg (Chg.of hb []) (fun _ hm => by cases hm)
theorem KT.drew {W : World} {v : Value} {K : List Vl} (h : KT W v K) : KT W.drew v K := h
section
variable {α β : Type} [Inhabited α] [Inhabited β] (f : α → β) (cf : β → β → Int)
omit [Inhabited α] [Inhabited β] in
omit [Inhabited α] [Inhabited β] in
end
end Go.Proofs.YtcnlonaighlmbaaGreatDoor

namespace Go.Proofs.YtcnlonaighlmbaaGreatDoor
open Go.RowKit

section
variable {ops : Array Oper} {o : Oper} {a : Act} {K : Act → World → Prop} {Q : Exit → Act → World → Prop} {X : Prop}
end
def up {α : Type} (H : Nat → α) (x : Nat) (v : α) : Nat → α := fun y => if y = x then v else H y
theorem up_same {α : Type} (H : Nat → α) (x : Nat) (v : α) : up H x v x = v := if_pos rfl
theorem up_ne {α : Type} (H : Nat → α) (x y : Nat) (v : α) (h : y ≠ x) : up H x v y = H y := if_neg h
section
variable {W W' : World} {B M : Nat} {H : Nat → SV} {F : Nat → List Rm}
end
section
variable {W W' : World} {B g N : Nat} {H H' : Nat → SV} {G : List Nat}
end
end Go.Proofs.YtcnlonaighlmbaaGreatDoor

namespace Go.Proofs.YtcnlonaighlmbaaGreatDoor
open Go.RowKit

instance : Inhabited Rm := ⟨⟨0, 0, 0, default⟩⟩
theorem Reads.lt {α : Type} {size : Nat} {f : α → List Value} {W : World} {b o n c : Nat} {l : List α} (h : Reads size f W (.slice (some ⟨b, o, none⟩) n c) l) (h0 : 0 < n) : l.length = n ∧ b < W.heap.size ∧ ∀ i (hi : i < l.length) j, j < size → W.cell? ⟨b, o + (i * size + j), none⟩ = (f l[i])[j]? := by
  obtain ⟨A', c', e, -, -, h3⟩ := h
  injection e with e1 e2 e3
  obtain ⟨b', o', e4, hb, hc⟩ := h3 (by omega)
  rw [← e1] at e4
  injection e4 with e4
  injection e4 with e5 e6
  subst e5 e6
  exact ⟨e2.symm, hb, hc⟩
end Go.Proofs.YtcnlonaighlmbaaGreatDoor

namespace Go.Proofs.YtcnlonaighlmbaaGreatDoor
open Go.RowKit

theorem news_reads {α : Type} {size : Nat} {f : α → List Value} {W : World} {b o n c : Nat} {l : List α} (h : Reads size f W (.slice (some ⟨b, o, none⟩) n c) l) (hf : ∀ x, (f x).length = size) (hs : 0 < size) (h0 : 0 < n) : ∀ k u, (l.flatMap f)[k]? = some u → W.cell? ((⟨b, o, none⟩ : Addr).add k) = some u := fun k u hk => by
  obtain ⟨hl, -, hc⟩ := h.lt h0
  have hlen := flat_len f size hf l
  have hkl : k < (l.flatMap f).length := by
    rcases Nat.lt_or_ge k (l.flatMap f).length with h | h
    · exact h
    · rw [List.getElem?_eq_none h] at hk
      cases hk
  rw [hlen] at hkl
  have hi : k / size < l.length := (Nat.div_lt_iff_lt_mul hs).2 hkl
  have hj : k % size < size := Nat.mod_lt _ hs
  have e : k = k / size * size + k % size := by rw [Nat.mul_comm]; exact (Nat.div_add_mod k size).symm
  have h1 := flat_get f size hf l (k / size) (k % size) hi hj
  rw [← e, hk] at h1
  have h2 := hc (k / size) hi (k % size) hj
  rw [← e, ← h1] at h2
  rw [show ((⟨b, o, none⟩ : Addr).add k) = ⟨b, o + k, none⟩ by cases k <;> simp [Addr.add]]
  exact h2
section
variable {ops : Array Oper} {rest : List Oper} {o : Oper} {a : Act} {K : Act → World → Prop} {Q : Exit → Act → World → Prop} {X : Prop}
/-- append of some elements to a row of the call's own. -/
theorem wp_rowN {α : Type} (T E : TypeId) (size bytes : Nat) (f : α → List Value) (z : Value) (hu : Tryz.prog.underlying T = some (.slice E)) (hinfo : (Tryz.prog.info? E).map (fun i => (i.zero, i.size, i.bytes)) = some (some z, size, bytes)) (hzs : z.cells.size = size) (hsz : 0 < size)
    (hf : ∀ x, (f x).length = size ∧ ∀ u ∈ f x, u.oneCell' = true)
    {w : World} (hgd : o.guard = none) (s x : Operand) (ho : o.op = .call { callee := .builtin .append, args := #[s, x], argTypes := #[T, T] })
    (base : Nat) (v : Value) (l : List α) (hs : a.eval s = v) (hown : RowOf E size f w base v l) (m : List α) (b ofs c : Nat) (hx : a.eval x = .slice (some ⟨b, ofs, none⟩) m.length c) (hm : Reads size f w (.slice (some ⟨b, ofs, none⟩) m.length c) m) (h0 : 0 < m.length)
    (hby : (l.length + m.length) * bytes ≤ 140737488355328) (h63 : l.length + m.length ≤ maxLen) (hbase : base ≤ w.heap.size)
    (h : ∀ v' w', RowOf E size f w' base v' (l ++ m) → Below base w w' → w.grownBy w' v.ownBlock → wpList Tryz.prog ops Q rest (a.put o.dst v') w') :
    wpList Tryz.prog ops Q (o :: rest) a w := by
  obtain ⟨i0, hi, hz0, hz1, hz2⟩ := info_parts hinfo
  refine wpList_append_own_at _ hgd s x T ho base E i0 z size bytes hu hi hz0 hz1 hz2 hzs hsz v l.length (l.flatMap f) hs hown ⟨b, ofs, none⟩ m.length c (m.flatMap f) hx (flat_len f size (fun x => (hf x).1) m) (news_reads hm (fun x => (hf x).1) hsz h0) (fun u hu => by
    obtain ⟨y, -, hy⟩ := List.mem_flatMap.1 hu
    exact (hf y).2 u hy) h63 hby hbase ?_
  intro v' w' h1 h2 _ _
  refine h v' w' ?_ ((Below.refl _ _).grown h2 hbase (fun k hk => ((World.ownsRow.lt hown) k hk).1)) h2
  unfold RowOf
  rw [List.flatMap_append, List.length_append]
  exact h1
/-- The same at a step of a region that draws; which block grows. -/
theorem step_rowN {α : Type} (T E : TypeId) (size bytes : Nat) (f : α → List Value) (z : Value) (hu : Tryz.prog.underlying T = some (.slice E)) (hinfo : (Tryz.prog.info? E).map (fun i => (i.zero, i.size, i.bytes)) = some (some z, size, bytes)) (hzs : z.cells.size = size) (hsz : 0 < size)
    (hf : ∀ x, (f x).length = size ∧ ∀ u ∈ f x, u.oneCell' = true)
    {w : World} (hgd : o.guard = none) (s x : Operand) (ho : o.op = .call { callee := .builtin .append, args := #[s, x], argTypes := #[T, T] })
    (base : Nat) (v : Value) (l : List α) (hs : a.eval s = v) (hown : RowOf E size f w base v l) (m : List α) (b ofs c : Nat) (hx : a.eval x = .slice (some ⟨b, ofs, none⟩) m.length c) (hm : Reads size f w (.slice (some ⟨b, ofs, none⟩) m.length c) m) (h0 : 0 < m.length)
    (hby : (l.length + m.length) * bytes ≤ 140737488355328) (h63 : l.length + m.length ≤ maxLen) (hbase : base ≤ w.heap.size)
    (h : ∀ g cap w', RowOf E size f w' base (.slice (some ⟨g, 0, none⟩) (l.length + m.length) cap) (l ++ m) → Below base w w' → w.grownBy w' v.ownBlock → K (a.put o.dst (.slice (some ⟨g, 0, none⟩) (l.length + m.length) cap)) w') :
    if Region.wanted o (yielded ops a.tmps) = true then Oper.wp Tryz.prog o a w K Q else X := by
  obtain ⟨i0, hi, hz0, hz1, hz2⟩ := info_parts hinfo
  refine step_append_lies (P := Tryz.prog) w hgd s x T ho base E i0 z size bytes hu hi hz0 hz1 hz2 hzs hsz v l.length (l.flatMap f) hs hown ⟨b, ofs, none⟩ m.length c (m.flatMap f) hx (flat_len f size (fun x => (hf x).1) m) (news_reads hm (fun x => (hf x).1) hsz h0) (fun u hu => by
    obtain ⟨y, -, hy⟩ := List.mem_flatMap.1 hu
    exact (hf y).2 u hy) h0 h63 hby hbase _ rfl ?_
  intro g cap w' h1 h2 _ _
  refine h g cap w' ?_ ((Below.refl _ _).grown h2 hbase (fun k hk => ((World.ownsRow.lt hown) k hk).1)) h2
  unfold RowOf
  rw [List.flatMap_append, List.length_append]
  exact h1
end
/-- An empty literal of values. -/
theorem row_lit0 (w : World) : RowOf 26 9 csV (w.alloc (.cells #[] 26)) w.heap.size (.slice (some ⟨w.heap.size, 0, none⟩) 0 0) [] := by
  refine ⟨rfl, .inr ⟨w.heap.size, 0, #[], rfl, Nat.le_refl _, Blk.new w _ _, ?_, ?_, ?_, ?_⟩⟩
  all_goals first | rfl | decide | simp
end Go.Proofs.YtcnlonaighlmbaaGreatDoor

namespace Go.Proofs.YtcnlonaighlmbaaGreatDoor
open Go.RowKit

theorem Loc.set9 {w W : World} {L : List (Nat × TypeId × Array Value)} {g : Nat} {t : TypeId} {x0 x1 x2 x3 x4 x5 x6 x7 x8 : Value} (h : Loc w ((g, t, #[x0, x1, x2, x3, x4, x5, x6, x7, x8]) :: L) W) (hne : ∀ x ∈ L, x.1 ≠ g) (y0 y1 y2 y3 y4 y5 y6 y7 y8 : Value) :
    Loc w ((g, t, #[y0, y1, y2, y3, y4, y5, y6, y7, y8]) :: L) (((((((((W.setCell ⟨g, 0, none⟩ y0).setCell ⟨g, 1, none⟩ y1).setCell ⟨g, 2, none⟩ y2).setCell ⟨g, 3, none⟩ y3).setCell ⟨g, 4, none⟩ y4).setCell ⟨g, 5, none⟩ y5).setCell ⟨g, 6, none⟩ y6).setCell ⟨g, 7, none⟩ y7).setCell ⟨g, 8, none⟩ y8) :=
  ⟨below_nine h.1 (h.2 _ (List.mem_cons_self ..)).1 _ _ _ _ _ _ _ _ _, fun x hx => by
    rcases List.mem_cons.1 hx with rfl | hx
    · exact ⟨(h.2 _ (List.mem_cons_self ..)).1, ((h.2 _ (List.mem_cons_self ..)).2.nine_set _ _ _ _ _ _ _ _ _).1⟩
    · have := h.2 x (List.mem_cons_of_mem _ hx)
      exact ⟨this.1, this.2.nine_far (hne x hx) _ _ _ _ _ _ _ _ _⟩⟩
set_option maxRecDepth 100000 in
set_option maxHeartbeats 8000000 in
theorem same_h (k : Int) (num den text : ByteArray) (on : Bool) (code rows cols : Int) (A1 A2 : Option Addr) (n1 c1 n2 c2 : Nat) (w : World) (H : ∀ W, Below w.heap.size w W → Calls Tryz.prog 23 #[.slice A1 n1 c1, .slice A2 n2 c2, .func (.func 12) #[] #[]] W fun e w' => e = .returned (.bool true) ∧ Below W.heap.size W w') :
    Calls Tryz.prog 12 #[.agg #[.int .i64 k, .string num, .string den, .string text, .bool on, .int .i64 code, .int .i64 rows, .int .i64 cols, .slice A1 n1 c1], .agg #[.int .i64 k, .string num, .string den, .string text, .bool on, .int .i64 code, .int .i64 rows, .int .i64 cols, .slice A2 n2 c2]] w fun e w' => e = .returned (.bool true) ∧ Below w.heap.size w w' := by
  have HH := Lib.hid H
  clear H
  have HL0 := Lib.hid (((Loc.start w).alloc' rfl 26 #[.int .i64 k, .string num, .string den, .string text, .bool on, .int .i64 code, .int .i64 rows, .int .i64 cols, .slice A1 n1 c1]).alloc' (g := w.heap.size + 1) (by simp) 26 #[.int .i64 k, .string num, .string den, .string text, .bool on, .int .i64 code, .int .i64 rows, .int .i64 cols, .slice A2 n2 c2])
  have HQ := fr_eql_self num den
  go_enter Tryz.func12, Tryz.ntmps12
  go_upto_region 1 with fail
  revert HL0
  generalize (w.alloc (.cells #[.int .i64 k, .string num, .string den, .string text, .bool on, .int .i64 code, .int .i64 rows, .int .i64 cols, .slice A1 n1 c1] 26)).alloc (.cells #[.int .i64 k, .string num, .string den, .string text, .bool on, .int .i64 code, .int .i64 rows, .int .i64 cols, .slice A2 n2 c2] 26) = W1
  intro HL0
  go_cut [5, 6] (fun u5 u6 wx => ∃ p q, u5 = .pointer (some ⟨p, 0, none⟩) ∧ u6 = .pointer (some ⟨q, 0, none⟩) ∧ Hid (Loc w [(p, 26, #[.int .i64 k, .string num, .string den, .string text, .bool on, .int .i64 code, .int .i64 rows, .int .i64 cols, .slice A1 n1 c1]), (q, 26, #[.int .i64 k, .string num, .string den, .string text, .bool on, .int .i64 code, .int .i64 rows, .int .i64 cols, .slice A2 n2 c2]), (w.heap.size + 1, 26, #[.int .i64 k, .string num, .string den, .string text, .bool on, .int .i64 code, .int .i64 rows, .int .i64 cols, .slice A2 n2 c2]), (w.heap.size, 26, #[.int .i64 k, .string num, .string den, .string text, .bool on, .int .i64 code, .int .i64 rows, .int .i64 cols, .slice A1 n1 c1])] wx) ∧ Hid (p ≠ q ∧ w.heap.size + 1 < p ∧ w.heap.size + 1 < q))
  case first =>
    have HS1 := Lib.hid (show ∀ W, Loc w [(w.heap.size + 1, 26, #[.int .i64 k, .string num, .string den, .string text, .bool on, .int .i64 code, .int .i64 rows, .int .i64 cols, .slice A2 n2 c2]), (w.heap.size, 26, #[.int .i64 k, .string num, .string den, .string text, .bool on, .int .i64 code, .int .i64 rows, .int .i64 cols, .slice A1 n1 c1])] W → (W.cell? ⟨w.heap.size, 0, none⟩ = some (.int .i64 k) ∧ W.cell? ⟨w.heap.size, 1, none⟩ = some (.string num) ∧ W.cell? ⟨w.heap.size, 2, none⟩ = some (.string den) ∧ W.cell? ⟨w.heap.size, 3, none⟩ = some (.string text) ∧ W.cell? ⟨w.heap.size, 4, none⟩ = some (.bool on) ∧ W.cell? ⟨w.heap.size, 5, none⟩ = some (.int .i64 code) ∧ W.cell? ⟨w.heap.size, 6, none⟩ = some (.int .i64 rows) ∧ W.cell? ⟨w.heap.size, 7, none⟩ = some (.int .i64 cols) ∧ W.cell? ⟨w.heap.size, 8, none⟩ = some (.slice A1 n1 c1)) ∧ (W.cell? ⟨w.heap.size + 1, 0, none⟩ = some (.int .i64 k) ∧ W.cell? ⟨w.heap.size + 1, 1, none⟩ = some (.string num) ∧ W.cell? ⟨w.heap.size + 1, 2, none⟩ = some (.string den) ∧ W.cell? ⟨w.heap.size + 1, 3, none⟩ = some (.string text) ∧ W.cell? ⟨w.heap.size + 1, 4, none⟩ = some (.bool on) ∧ W.cell? ⟨w.heap.size + 1, 5, none⟩ = some (.int .i64 code) ∧ W.cell? ⟨w.heap.size + 1, 6, none⟩ = some (.int .i64 rows) ∧ W.cell? ⟨w.heap.size + 1, 7, none⟩ = some (.int .i64 cols) ∧ W.cell? ⟨w.heap.size + 1, 8, none⟩ = some (.slice A2 n2 c2)) from fun W h => by
      have a := h.blk (g := w.heap.size) (t := 26) (List.mem_cons_of_mem _ (List.mem_cons_self ..))
      have b := h.blk (g := w.heap.size + 1) (t := 26) (List.mem_cons_self ..)
      exact ⟨⟨a.cell 0, a.cell 1, a.cell 2, a.cell 3, a.cell 4, a.cell 5, a.cell 6, a.cell 7, a.cell 8⟩, b.cell 0, b.cell 1, b.cell 2, b.cell 3, b.cell 4, b.cell 5, b.cell 6, b.cell 7, b.cell 8⟩)
    have l1 := HL0.out.lt (g := w.heap.size + 1) (t := 26) (List.mem_cons_self ..)
    have L1 := Lib.hid HL0.out
    refine wp_region_G (S1 := fun W => (W.cell? ⟨w.heap.size, 0, none⟩ = some (.int .i64 k) ∧ W.cell? ⟨w.heap.size, 1, none⟩ = some (.string num) ∧ W.cell? ⟨w.heap.size, 2, none⟩ = some (.string den) ∧ W.cell? ⟨w.heap.size, 3, none⟩ = some (.string text) ∧ W.cell? ⟨w.heap.size, 4, none⟩ = some (.bool on) ∧ W.cell? ⟨w.heap.size, 5, none⟩ = some (.int .i64 code) ∧ W.cell? ⟨w.heap.size, 6, none⟩ = some (.int .i64 rows) ∧ W.cell? ⟨w.heap.size, 7, none⟩ = some (.int .i64 cols) ∧ W.cell? ⟨w.heap.size, 8, none⟩ = some (.slice A1 n1 c1)) ∧ (W.cell? ⟨w.heap.size + 1, 0, none⟩ = some (.int .i64 k) ∧ W.cell? ⟨w.heap.size + 1, 1, none⟩ = some (.string num) ∧ W.cell? ⟨w.heap.size + 1, 2, none⟩ = some (.string den) ∧ W.cell? ⟨w.heap.size + 1, 3, none⟩ = some (.string text) ∧ W.cell? ⟨w.heap.size + 1, 4, none⟩ = some (.bool on) ∧ W.cell? ⟨w.heap.size + 1, 5, none⟩ = some (.int .i64 code) ∧ W.cell? ⟨w.heap.size + 1, 6, none⟩ = some (.int .i64 rows) ∧ W.cell? ⟨w.heap.size + 1, 7, none⟩ = some (.int .i64 cols) ∧ W.cell? ⟨w.heap.size + 1, 8, none⟩ = some (.slice A2 n2 c2))) (S2 := fun _ => True) (d := 99) (by kernel_rfl) (HS1.out _ HL0.out.drew) trivial (fun hT => ?_)
    refine wpAnyG_take1d (i := 0) (v := ?_) rfl rfl (by kernel_rfl) (by kernel_rfl) (by kernel_rfl) (by kernel_rfl) (fun _ _ _ h => h) (Or.inl ⟨by rfl, ?_⟩) (by assumption) (fun hT => ?_)
    rotate_left
    · intro w hSw
      (try dsimp only at hSw)
      go_simp
      (try with_reducible rfl)
    (try simp only [Act.put, List.setIfInBounds_toArray, List.set_cons_zero, List.set_cons_succ])
    refine wpAnyG_take1d (i := 1) (v := ?_) rfl rfl (by kernel_rfl) (by kernel_rfl) (by kernel_rfl) (by kernel_rfl) (fun _ _ _ h => h) (Or.inl ⟨by rfl, ?_⟩) (by assumption) (fun hT => ?_)
    rotate_left
    · intro w hSw
      (try dsimp only at hSw)
      go_simp
      (try with_reducible rfl)
    (try simp only [Act.put, List.setIfInBounds_toArray, List.set_cons_zero, List.set_cons_succ])
    refine wpAnyG_ready (rs := [2, 3]) (by kernel_rfl) (by simp) ?_
    refine AllG.cons (i := 2) rfl (fun K hK => ?_) (AllG.cons (i := 3) rfl (fun K hK => ?_) AllG.nil)
    · go_simp
      have LA := Lib.hid (HL0.out.drew.alloc' (g := W1.heap.size) rfl 26 #[.int .i64 0, .string ⟨#[]⟩, .string ⟨#[]⟩, .string ⟨#[]⟩, .bool false, .int .i64 0, .int .i64 0, .int .i64 0, .slice none 0 0])
      refine hK.out _ _ ⟨HS1.out _ (LA.out.perm fun x hx => List.mem_cons_of_mem _ hx), .inr trivial⟩ (fun hT => ?_)
      clear hK K
      (try simp only [Act.put, List.setIfInBounds_toArray, List.set_cons_zero, List.set_cons_succ])
      refine wpAnyG_ready (rs := [3]) (by kernel_rfl) (by simp) ?_
      refine AllG.cons (i := 3) rfl (fun K hK => ?_) AllG.nil
      go_simp
      have LB := Lib.hid (LA.out.alloc' (g := W1.heap.size + 1) (by simp) 26 #[.int .i64 0, .string ⟨#[]⟩, .string ⟨#[]⟩, .string ⟨#[]⟩, .bool false, .int .i64 0, .int .i64 0, .int .i64 0, .slice none 0 0])
      refine hK.out _ _ ⟨HS1.out _ (LB.out.perm fun x hx => List.mem_cons_of_mem _ (List.mem_cons_of_mem _ hx)), .inr trivial⟩ (fun hT => ?_)
      clear hK K
      (try simp only [Act.put, List.setIfInBounds_toArray, List.set_cons_zero, List.set_cons_succ])
      clear hT
      have LC : Loc w [(W1.heap.size, 26, #[.int .i64 0, .string ⟨#[]⟩, .string ⟨#[]⟩, .string ⟨#[]⟩, .bool false, .int .i64 0, .int .i64 0, .int .i64 0, .slice none 0 0]), (W1.heap.size + 1, 26, #[.int .i64 0, .string ⟨#[]⟩, .string ⟨#[]⟩, .string ⟨#[]⟩, .bool false, .int .i64 0, .int .i64 0, .int .i64 0, .slice none 0 0]), (w.heap.size + 1, 26, #[.int .i64 k, .string num, .string den, .string text, .bool on, .int .i64 code, .int .i64 rows, .int .i64 cols, .slice A2 n2 c2]), (w.heap.size, 26, #[.int .i64 k, .string num, .string den, .string text, .bool on, .int .i64 code, .int .i64 rows, .int .i64 cols, .slice A1 n1 c1])] ((W1.alloc (.cells #[.int .i64 0, .string ⟨#[]⟩, .string ⟨#[]⟩, .string ⟨#[]⟩, .bool false, .int .i64 0, .int .i64 0, .int .i64 0, .slice none 0 0] 26)).alloc (.cells #[.int .i64 0, .string ⟨#[]⟩, .string ⟨#[]⟩, .string ⟨#[]⟩, .bool false, .int .i64 0, .int .i64 0, .int .i64 0, .slice none 0 0] 26)).drew := LB.out.perm fun x hx => by
        simp only [List.mem_cons, List.not_mem_nil, or_false] at hx ⊢
        rcases hx with h | h | h | h <;> simp [h]
      have LC := Lib.hid LC
      clear LA LB
      revert LC
      generalize ((W1.alloc (.cells #[.int .i64 0, .string ⟨#[]⟩, .string ⟨#[]⟩, .string ⟨#[]⟩, .bool false, .int .i64 0, .int .i64 0, .int .i64 0, .slice none 0 0] 26)).alloc (.cells #[.int .i64 0, .string ⟨#[]⟩, .string ⟨#[]⟩, .string ⟨#[]⟩, .bool false, .int .i64 0, .int .i64 0, .int .i64 0, .slice none 0 0] 26)).drew = W2
      intro LC
      have bp := LC.out.blk (g := W1.heap.size) (t := 26) (List.mem_cons_self ..)
      obtain ⟨z0, z1, z2, z3, z4, z5, z6, z7, z8⟩ := bp.nine
      obtain ⟨f0, f1, f2, f3, f4, f5, f6, f7, f8⟩ := bp.ninef
      obtain ⟨-, d0, d1, d2, d3, d4, d5, d6, d7, d8⟩ := bp.nine_set (.int .i64 k) (.string num) (.string den) (.string text) (.bool on) (.int .i64 code) (.int .i64 rows) (.int .i64 cols) (.slice A1 n1 c1)
      clear bp
      refine wpAnyG_ready (rs := [4]) (by kernel_rfl) (by simp) ?_
      refine AllG.cons (i := 4) rfl (fun K hK => ?_) AllG.nil
      go_simp
      have LD := Lib.hid (LC.out.set9 (fun x hx => by simp only [List.mem_cons, List.not_mem_nil, or_false] at hx; rcases hx with rfl | rfl | rfl <;> (dsimp only; omega)) (.int .i64 k) (.string num) (.string den) (.string text) (.bool on) (.int .i64 code) (.int .i64 rows) (.int .i64 cols) (.slice A1 n1 c1))
      clear z0 z1 z2 z3 z4 z5 z6 z7 z8 f0 f1 f2 f3 f4 f5 f6 f7 f8 d0 d1 d2 d3 d4 d5 d6 d7 d8
      refine hK.out _ _ ⟨HS1.out _ (LD.out.perm (fun x hx => List.mem_cons_of_mem _ (List.mem_cons_of_mem _ hx))), .inr trivial⟩ (fun hT => ?_)
      clear hK K
      (try simp only [Act.put, List.setIfInBounds_toArray, List.set_cons_zero, List.set_cons_succ])
      revert LD
      generalize (((((((((W2.setCell ⟨W1.heap.size, 0, none⟩ (.int .i64 k)).setCell ⟨W1.heap.size, 1, none⟩ (.string num)).setCell ⟨W1.heap.size, 2, none⟩ (.string den)).setCell ⟨W1.heap.size, 3, none⟩ (.string text)).setCell ⟨W1.heap.size, 4, none⟩ (.bool on)).setCell ⟨W1.heap.size, 5, none⟩ (.int .i64 code)).setCell ⟨W1.heap.size, 6, none⟩ (.int .i64 rows)).setCell ⟨W1.heap.size, 7, none⟩ (.int .i64 cols)).setCell ⟨W1.heap.size, 8, none⟩ (.slice A1 n1 c1)) = W3
      intro LD
      have LE : Loc w [(W1.heap.size + 1, 26, #[.int .i64 0, .string ⟨#[]⟩, .string ⟨#[]⟩, .string ⟨#[]⟩, .bool false, .int .i64 0, .int .i64 0, .int .i64 0, .slice none 0 0]), (W1.heap.size, 26, #[.int .i64 k, .string num, .string den, .string text, .bool on, .int .i64 code, .int .i64 rows, .int .i64 cols, .slice A1 n1 c1]), (w.heap.size + 1, 26, #[.int .i64 k, .string num, .string den, .string text, .bool on, .int .i64 code, .int .i64 rows, .int .i64 cols, .slice A2 n2 c2]), (w.heap.size, 26, #[.int .i64 k, .string num, .string den, .string text, .bool on, .int .i64 code, .int .i64 rows, .int .i64 cols, .slice A1 n1 c1])] W3 := LD.out.perm fun x hx => by
        simp only [List.mem_cons, List.not_mem_nil, or_false] at hx ⊢
        rcases hx with h | h | h | h <;> simp [h]
      have LE := Lib.hid LE
      clear LD LC
      have bp := LE.out.blk (g := W1.heap.size + 1) (t := 26) (List.mem_cons_self ..)
      obtain ⟨z0, z1, z2, z3, z4, z5, z6, z7, z8⟩ := bp.nine
      obtain ⟨f0, f1, f2, f3, f4, f5, f6, f7, f8⟩ := bp.ninef
      obtain ⟨-, d0, d1, d2, d3, d4, d5, d6, d7, d8⟩ := bp.nine_set (.int .i64 k) (.string num) (.string den) (.string text) (.bool on) (.int .i64 code) (.int .i64 rows) (.int .i64 cols) (.slice A2 n2 c2)
      clear bp
      refine wpAnyG_ready (rs := [5]) (by kernel_rfl) (by simp) ?_
      refine AllG.cons (i := 5) rfl (fun K hK => ?_) AllG.nil
      go_simp
      have LF := Lib.hid (LE.out.set9 (fun x hx => by simp only [List.mem_cons, List.not_mem_nil, or_false] at hx; rcases hx with rfl | rfl | rfl <;> (dsimp only; omega)) (.int .i64 k) (.string num) (.string den) (.string text) (.bool on) (.int .i64 code) (.int .i64 rows) (.int .i64 cols) (.slice A2 n2 c2))
      clear z0 z1 z2 z3 z4 z5 z6 z7 z8 f0 f1 f2 f3 f4 f5 f6 f7 f8 d0 d1 d2 d3 d4 d5 d6 d7 d8
      refine hK.out _ _ ⟨HS1.out _ (LF.out.perm (fun x hx => List.mem_cons_of_mem _ (List.mem_cons_of_mem _ hx))), .inr trivial⟩ (fun hT => ?_)
      clear hK K
      (try simp only [Act.put, List.setIfInBounds_toArray, List.set_cons_zero, List.set_cons_succ])
      revert LF
      generalize (((((((((W3.setCell ⟨W1.heap.size + 1, 0, none⟩ (.int .i64 k)).setCell ⟨W1.heap.size + 1, 1, none⟩ (.string num)).setCell ⟨W1.heap.size + 1, 2, none⟩ (.string den)).setCell ⟨W1.heap.size + 1, 3, none⟩ (.string text)).setCell ⟨W1.heap.size + 1, 4, none⟩ (.bool on)).setCell ⟨W1.heap.size + 1, 5, none⟩ (.int .i64 code)).setCell ⟨W1.heap.size + 1, 6, none⟩ (.int .i64 rows)).setCell ⟨W1.heap.size + 1, 7, none⟩ (.int .i64 cols)).setCell ⟨W1.heap.size + 1, 8, none⟩ (.slice A2 n2 c2)) = W4
      intro LF
      refine wpAnyG_done (by kernel_rfl) ?_ _
      go_wp2_with fail
      go_meet
      have LG : Loc w [(W1.heap.size, 26, #[.int .i64 k, .string num, .string den, .string text, .bool on, .int .i64 code, .int .i64 rows, .int .i64 cols, .slice A1 n1 c1]), (W1.heap.size + 1, 26, #[.int .i64 k, .string num, .string den, .string text, .bool on, .int .i64 code, .int .i64 rows, .int .i64 cols, .slice A2 n2 c2]), (w.heap.size + 1, 26, #[.int .i64 k, .string num, .string den, .string text, .bool on, .int .i64 code, .int .i64 rows, .int .i64 cols, .slice A2 n2 c2]), (w.heap.size, 26, #[.int .i64 k, .string num, .string den, .string text, .bool on, .int .i64 code, .int .i64 rows, .int .i64 cols, .slice A1 n1 c1])] W4 := LF.out.perm fun x hx => by
        simp only [List.mem_cons, List.not_mem_nil, or_false] at hx ⊢
        rcases hx with h | h | h | h <;> simp [h]
      exact ⟨_, _, rfl, rfl, Lib.hid LG, Lib.hid (by refine ⟨?_, ?_, ?_⟩ <;> omega)⟩
    · go_simp
      have LA := Lib.hid (HL0.out.drew.alloc' (g := W1.heap.size) rfl 26 #[.int .i64 0, .string ⟨#[]⟩, .string ⟨#[]⟩, .string ⟨#[]⟩, .bool false, .int .i64 0, .int .i64 0, .int .i64 0, .slice none 0 0])
      refine hK.out _ _ ⟨HS1.out _ (LA.out.perm fun x hx => List.mem_cons_of_mem _ hx), .inr trivial⟩ (fun hT => ?_)
      clear hK K
      (try simp only [Act.put, List.setIfInBounds_toArray, List.set_cons_zero, List.set_cons_succ])
      refine wpAnyG_ready (rs := [2]) (by kernel_rfl) (by simp) ?_
      refine AllG.cons (i := 2) rfl (fun K hK => ?_) AllG.nil
      go_simp
      have LB := Lib.hid (LA.out.alloc' (g := W1.heap.size + 1) (by simp) 26 #[.int .i64 0, .string ⟨#[]⟩, .string ⟨#[]⟩, .string ⟨#[]⟩, .bool false, .int .i64 0, .int .i64 0, .int .i64 0, .slice none 0 0])
      refine hK.out _ _ ⟨HS1.out _ (LB.out.perm fun x hx => List.mem_cons_of_mem _ (List.mem_cons_of_mem _ hx)), .inr trivial⟩ (fun hT => ?_)
      clear hK K
      (try simp only [Act.put, List.setIfInBounds_toArray, List.set_cons_zero, List.set_cons_succ])
      clear hT
      have LC : Loc w [(W1.heap.size + 1, 26, #[.int .i64 0, .string ⟨#[]⟩, .string ⟨#[]⟩, .string ⟨#[]⟩, .bool false, .int .i64 0, .int .i64 0, .int .i64 0, .slice none 0 0]), (W1.heap.size, 26, #[.int .i64 0, .string ⟨#[]⟩, .string ⟨#[]⟩, .string ⟨#[]⟩, .bool false, .int .i64 0, .int .i64 0, .int .i64 0, .slice none 0 0]), (w.heap.size + 1, 26, #[.int .i64 k, .string num, .string den, .string text, .bool on, .int .i64 code, .int .i64 rows, .int .i64 cols, .slice A2 n2 c2]), (w.heap.size, 26, #[.int .i64 k, .string num, .string den, .string text, .bool on, .int .i64 code, .int .i64 rows, .int .i64 cols, .slice A1 n1 c1])] ((W1.alloc (.cells #[.int .i64 0, .string ⟨#[]⟩, .string ⟨#[]⟩, .string ⟨#[]⟩, .bool false, .int .i64 0, .int .i64 0, .int .i64 0, .slice none 0 0] 26)).alloc (.cells #[.int .i64 0, .string ⟨#[]⟩, .string ⟨#[]⟩, .string ⟨#[]⟩, .bool false, .int .i64 0, .int .i64 0, .int .i64 0, .slice none 0 0] 26)).drew := LB.out.perm fun x hx => by
        simp only [List.mem_cons, List.not_mem_nil, or_false] at hx ⊢
        rcases hx with h | h | h | h <;> simp [h]
      have LC := Lib.hid LC
      clear LA LB
      revert LC
      generalize ((W1.alloc (.cells #[.int .i64 0, .string ⟨#[]⟩, .string ⟨#[]⟩, .string ⟨#[]⟩, .bool false, .int .i64 0, .int .i64 0, .int .i64 0, .slice none 0 0] 26)).alloc (.cells #[.int .i64 0, .string ⟨#[]⟩, .string ⟨#[]⟩, .string ⟨#[]⟩, .bool false, .int .i64 0, .int .i64 0, .int .i64 0, .slice none 0 0] 26)).drew = W2
      intro LC
      have bp := LC.out.blk (g := W1.heap.size + 1) (t := 26) (List.mem_cons_self ..)
      obtain ⟨z0, z1, z2, z3, z4, z5, z6, z7, z8⟩ := bp.nine
      obtain ⟨f0, f1, f2, f3, f4, f5, f6, f7, f8⟩ := bp.ninef
      obtain ⟨-, d0, d1, d2, d3, d4, d5, d6, d7, d8⟩ := bp.nine_set (.int .i64 k) (.string num) (.string den) (.string text) (.bool on) (.int .i64 code) (.int .i64 rows) (.int .i64 cols) (.slice A1 n1 c1)
      clear bp
      refine wpAnyG_ready (rs := [4]) (by kernel_rfl) (by simp) ?_
      refine AllG.cons (i := 4) rfl (fun K hK => ?_) AllG.nil
      go_simp
      have LD := Lib.hid (LC.out.set9 (fun x hx => by simp only [List.mem_cons, List.not_mem_nil, or_false] at hx; rcases hx with rfl | rfl | rfl <;> (dsimp only; omega)) (.int .i64 k) (.string num) (.string den) (.string text) (.bool on) (.int .i64 code) (.int .i64 rows) (.int .i64 cols) (.slice A1 n1 c1))
      clear z0 z1 z2 z3 z4 z5 z6 z7 z8 f0 f1 f2 f3 f4 f5 f6 f7 f8 d0 d1 d2 d3 d4 d5 d6 d7 d8
      refine hK.out _ _ ⟨HS1.out _ (LD.out.perm (fun x hx => List.mem_cons_of_mem _ (List.mem_cons_of_mem _ hx))), .inr trivial⟩ (fun hT => ?_)
      clear hK K
      (try simp only [Act.put, List.setIfInBounds_toArray, List.set_cons_zero, List.set_cons_succ])
      revert LD
      generalize (((((((((W2.setCell ⟨W1.heap.size + 1, 0, none⟩ (.int .i64 k)).setCell ⟨W1.heap.size + 1, 1, none⟩ (.string num)).setCell ⟨W1.heap.size + 1, 2, none⟩ (.string den)).setCell ⟨W1.heap.size + 1, 3, none⟩ (.string text)).setCell ⟨W1.heap.size + 1, 4, none⟩ (.bool on)).setCell ⟨W1.heap.size + 1, 5, none⟩ (.int .i64 code)).setCell ⟨W1.heap.size + 1, 6, none⟩ (.int .i64 rows)).setCell ⟨W1.heap.size + 1, 7, none⟩ (.int .i64 cols)).setCell ⟨W1.heap.size + 1, 8, none⟩ (.slice A1 n1 c1)) = W3
      intro LD
      have LE : Loc w [(W1.heap.size, 26, #[.int .i64 0, .string ⟨#[]⟩, .string ⟨#[]⟩, .string ⟨#[]⟩, .bool false, .int .i64 0, .int .i64 0, .int .i64 0, .slice none 0 0]), (W1.heap.size + 1, 26, #[.int .i64 k, .string num, .string den, .string text, .bool on, .int .i64 code, .int .i64 rows, .int .i64 cols, .slice A1 n1 c1]), (w.heap.size + 1, 26, #[.int .i64 k, .string num, .string den, .string text, .bool on, .int .i64 code, .int .i64 rows, .int .i64 cols, .slice A2 n2 c2]), (w.heap.size, 26, #[.int .i64 k, .string num, .string den, .string text, .bool on, .int .i64 code, .int .i64 rows, .int .i64 cols, .slice A1 n1 c1])] W3 := LD.out.perm fun x hx => by
        simp only [List.mem_cons, List.not_mem_nil, or_false] at hx ⊢
        rcases hx with h | h | h | h <;> simp [h]
      have LE := Lib.hid LE
      clear LD LC
      have bp := LE.out.blk (g := W1.heap.size) (t := 26) (List.mem_cons_self ..)
      obtain ⟨z0, z1, z2, z3, z4, z5, z6, z7, z8⟩ := bp.nine
      obtain ⟨f0, f1, f2, f3, f4, f5, f6, f7, f8⟩ := bp.ninef
      obtain ⟨-, d0, d1, d2, d3, d4, d5, d6, d7, d8⟩ := bp.nine_set (.int .i64 k) (.string num) (.string den) (.string text) (.bool on) (.int .i64 code) (.int .i64 rows) (.int .i64 cols) (.slice A2 n2 c2)
      clear bp
      refine wpAnyG_ready (rs := [5]) (by kernel_rfl) (by simp) ?_
      refine AllG.cons (i := 5) rfl (fun K hK => ?_) AllG.nil
      go_simp
      have LF := Lib.hid (LE.out.set9 (fun x hx => by simp only [List.mem_cons, List.not_mem_nil, or_false] at hx; rcases hx with rfl | rfl | rfl <;> (dsimp only; omega)) (.int .i64 k) (.string num) (.string den) (.string text) (.bool on) (.int .i64 code) (.int .i64 rows) (.int .i64 cols) (.slice A2 n2 c2))
      clear z0 z1 z2 z3 z4 z5 z6 z7 z8 f0 f1 f2 f3 f4 f5 f6 f7 f8 d0 d1 d2 d3 d4 d5 d6 d7 d8
      refine hK.out _ _ ⟨HS1.out _ (LF.out.perm (fun x hx => List.mem_cons_of_mem _ (List.mem_cons_of_mem _ hx))), .inr trivial⟩ (fun hT => ?_)
      clear hK K
      (try simp only [Act.put, List.setIfInBounds_toArray, List.set_cons_zero, List.set_cons_succ])
      revert LF
      generalize (((((((((W3.setCell ⟨W1.heap.size, 0, none⟩ (.int .i64 k)).setCell ⟨W1.heap.size, 1, none⟩ (.string num)).setCell ⟨W1.heap.size, 2, none⟩ (.string den)).setCell ⟨W1.heap.size, 3, none⟩ (.string text)).setCell ⟨W1.heap.size, 4, none⟩ (.bool on)).setCell ⟨W1.heap.size, 5, none⟩ (.int .i64 code)).setCell ⟨W1.heap.size, 6, none⟩ (.int .i64 rows)).setCell ⟨W1.heap.size, 7, none⟩ (.int .i64 cols)).setCell ⟨W1.heap.size, 8, none⟩ (.slice A2 n2 c2)) = W4
      intro LF
      refine wpAnyG_done (by kernel_rfl) ?_ _
      go_wp2_with fail
      go_meet
      have LG : Loc w [(W1.heap.size + 1, 26, #[.int .i64 k, .string num, .string den, .string text, .bool on, .int .i64 code, .int .i64 rows, .int .i64 cols, .slice A1 n1 c1]), (W1.heap.size, 26, #[.int .i64 k, .string num, .string den, .string text, .bool on, .int .i64 code, .int .i64 rows, .int .i64 cols, .slice A2 n2 c2]), (w.heap.size + 1, 26, #[.int .i64 k, .string num, .string den, .string text, .bool on, .int .i64 code, .int .i64 rows, .int .i64 cols, .slice A2 n2 c2]), (w.heap.size, 26, #[.int .i64 k, .string num, .string den, .string text, .bool on, .int .i64 code, .int .i64 rows, .int .i64 cols, .slice A1 n1 c1])] W4 := LF.out.perm fun x hx => by
        simp only [List.mem_cons, List.not_mem_nil, or_false] at hx ⊢
        rcases hx with h | h | h | h <;> simp [h]
      exact ⟨_, _, rfl, rfl, Lib.hid LG, Lib.hid (by refine ⟨?_, ?_, ?_⟩ <;> omega)⟩
  case rest =>
    clear HL0
    obtain ⟨p, q, rfl, rfl, HL, HPQ⟩ := hcut
    have hne : ∀ x ∈ ([(q, 26, #[.int .i64 k, .string num, .string den, .string text, .bool on, .int .i64 code, .int .i64 rows, .int .i64 cols, .slice A2 n2 c2]), (w.heap.size + 1, 26, #[.int .i64 k, .string num, .string den, .string text, .bool on, .int .i64 code, .int .i64 rows, .int .i64 cols, .slice A2 n2 c2]), (w.heap.size, 26, #[.int .i64 k, .string num, .string den, .string text, .bool on, .int .i64 code, .int .i64 rows, .int .i64 cols, .slice A1 n1 c1])] : List (Nat × TypeId × Array Value)), x.1 ≠ p := fun x hx => by
      have h := HPQ.out
      simp only [List.mem_cons, List.not_mem_nil, or_false] at hx
      rcases hx with rfl | rfl | rfl <;> (dsimp only; omega)
    have HNE := Lib.hid hne
    clear hne
    have hp := HL.out.blk (g := p) (t := 26) (List.mem_cons_self ..)
    have hq := HL.out.blk (g := q) (t := 26) (List.mem_cons_of_mem _ (List.mem_cons_self ..))
    rename World => wx
    have p8 : wx.cell? ⟨p, 8, none⟩ = some (.slice A1 n1 c1) := hp.cell 8
    have fp8 := hp.frozen 8
    have q8 : wx.cell? ⟨q, 8, none⟩ = some (.slice A2 n2 c2) := hq.cell 8
    have fq8 := hq.frozen 8
    clear hp hq
    have hpq := HPQ.out.1
    have hqp := Ne.symm hpq
    go_upto_region 3 with fail
    have h1 : Loc w [(p, 26, #[.int .i64 k, .string num, .string den, .string text, .bool on, .int .i64 code, .int .i64 rows, .int .i64 cols, .slice none 0 0]), (q, 26, #[.int .i64 k, .string num, .string den, .string text, .bool on, .int .i64 code, .int .i64 rows, .int .i64 cols, .slice A2 n2 c2]), (w.heap.size + 1, 26, #[.int .i64 k, .string num, .string den, .string text, .bool on, .int .i64 code, .int .i64 rows, .int .i64 cols, .slice A2 n2 c2]), (w.heap.size, 26, #[.int .i64 k, .string num, .string den, .string text, .bool on, .int .i64 code, .int .i64 rows, .int .i64 cols, .slice A1 n1 c1])] (wx.setCell ⟨p, 8, none⟩ (.slice none 0 0)) := HL.out.set1 (i := 8) HNE.out _
    have h2 : Loc w [(q, 26, #[.int .i64 k, .string num, .string den, .string text, .bool on, .int .i64 code, .int .i64 rows, .int .i64 cols, .slice A2 n2 c2]), (p, 26, #[.int .i64 k, .string num, .string den, .string text, .bool on, .int .i64 code, .int .i64 rows, .int .i64 cols, .slice none 0 0]), (w.heap.size + 1, 26, #[.int .i64 k, .string num, .string den, .string text, .bool on, .int .i64 code, .int .i64 rows, .int .i64 cols, .slice A2 n2 c2]), (w.heap.size, 26, #[.int .i64 k, .string num, .string den, .string text, .bool on, .int .i64 code, .int .i64 rows, .int .i64 cols, .slice A1 n1 c1])] (wx.setCell ⟨p, 8, none⟩ (.slice none 0 0)) := h1.perm fun x hx => by
      simp only [List.mem_cons, List.not_mem_nil, or_false] at hx ⊢
      rcases hx with h | h | h | h <;> simp [h]
    have h3 : Loc w [(q, 26, #[.int .i64 k, .string num, .string den, .string text, .bool on, .int .i64 code, .int .i64 rows, .int .i64 cols, .slice none 0 0]), (p, 26, #[.int .i64 k, .string num, .string den, .string text, .bool on, .int .i64 code, .int .i64 rows, .int .i64 cols, .slice none 0 0]), (w.heap.size + 1, 26, #[.int .i64 k, .string num, .string den, .string text, .bool on, .int .i64 code, .int .i64 rows, .int .i64 cols, .slice A2 n2 c2]), (w.heap.size, 26, #[.int .i64 k, .string num, .string den, .string text, .bool on, .int .i64 code, .int .i64 rows, .int .i64 cols, .slice A1 n1 c1])] ((wx.setCell ⟨p, 8, none⟩ (.slice none 0 0)).setCell ⟨q, 8, none⟩ (.slice none 0 0)) := h2.set1 (i := 8) (fun x hx => by
      have h := HPQ.out
      simp only [List.mem_cons, List.not_mem_nil, or_false] at hx
      rcases hx with rfl | rfl | rfl <;> (dsimp only; omega)) _
    have HL3 := Lib.hid h3
    clear h1 h2 h3 p8 fp8 q8 fq8 HL HNE
    revert HL3
    generalize (wx.setCell ⟨p, 8, none⟩ (.slice none 0 0)).setCell ⟨q, 8, none⟩ (.slice none 0 0) = W5
    intro HL3
    have bq := HL3.out.blk (g := q) (t := 26) (List.mem_cons_self ..)
    have bp := HL3.out.blk (g := p) (t := 26) (List.mem_cons_of_mem _ (List.mem_cons_self ..))
    obtain ⟨q0, q1, q2, q3, q4, q5, q6, q7, -⟩ := bq.nine
    obtain ⟨p0, p1, p2, p3, p4, p5, p6, p7, -⟩ := bp.nine
    have a8 : W5.cell? ⟨w.heap.size, 8, none⟩ = some (.slice A1 n1 c1) := (HL3.out.blk (g := w.heap.size) (t := 26) (List.mem_cons_of_mem _ (List.mem_cons_of_mem _ (List.mem_cons_of_mem _ (List.mem_cons_self ..))))).cell 8
    have b8 : W5.cell? ⟨w.heap.size + 1, 8, none⟩ = some (.slice A2 n2 c2) := (HL3.out.blk (g := w.heap.size + 1) (t := 26) (List.mem_cons_of_mem _ (List.mem_cons_of_mem _ (List.mem_cons_self ..)))).cell 8
    clear bp bq hpq hqp
    go_wp2_with (go_at_call 23; (with_reducible refine (HH.out _ HL3.out.bel).mono ?_); rintro e w9 ⟨rfl, hb⟩; have HL9 := Lib.hid (HL3.out.step hb); clear hb)
    go_ret
    exact ⟨rfl, HL9.out.bel⟩
end Go.Proofs.YtcnlonaighlmbaaGreatDoor

namespace Go.Proofs.YtcnlonaighlmbaaGreatDoor
open Go.RowKit

theorem same_v (u : Vl) (hu : u.n = 0) (w : World) : Calls Tryz.prog 12 #[.agg (vA u), .agg (vA u)] w fun e w' => e = .returned (.bool true) ∧ Below w.heap.size w w' := by
  obtain ⟨uk, unum, uden, utext, uon, ucode, urows, ucols, uA, un, uc⟩ := u
  dsimp only at hu
  subst hu
  exact same_h uk unum uden utext uon ucode urows ucols uA uA 0 uc 0 uc w fun W _ => (eqfunc_0 uA uA uc uc W).mono fun e w' h => ⟨h.1, by rw [← h.2]; exact Below.refl _ _⟩
set_option maxRecDepth 100000 in
set_option maxHeartbeats 8000000 in
theorem eqf_any (A1 A2 : Option Addr) (n c1 c2 : Nat) (l : List Vl) (w : World) (h1 : Reads 9 csV w (.slice A1 n c1) l) (h2 : Reads 9 csV w (.slice A2 n c2) l) (hs : ∀ u ∈ l, u.n = 0) (hn : n ≤ 100000) :
    Calls Tryz.prog 23 #[.slice A1 n c1, .slice A2 n c2, .func (.func 12) #[] #[]] w fun e w' => e = .returned (.bool true) ∧ Below w.heap.size w w' := by
  have hl : l.length = n := by
    obtain ⟨A', c', e, -⟩ := h1
    injection e with e1 e2 e3
    exact e2.symm
  have HC := Lib.hid (show ∀ i, i < n → ∃ (b o b2 o2 : Nat) (u : Vl), A1 = some ⟨b, o, none⟩ ∧ A2 = some ⟨b2, o2, none⟩ ∧ u.n = 0 ∧ ∀ W, Below w.heap.size w W → ∀ q, q < 9 → W.cell? ⟨b, o + i * 9 + q, none⟩ = (csV u)[q]? ∧ W.cell? ⟨b2, o2 + i * 9 + q, none⟩ = (csV u)[q]? from fun i hi => by
    obtain ⟨A', c', e, -, -, h3⟩ := h1
    injection e with e1 e2 e3
    obtain ⟨b, o, e4, hb, hc⟩ := h3 (by omega)
    obtain ⟨A'', c'', e', -, -, h3'⟩ := h2
    injection e' with e1' e2' e3'
    obtain ⟨b', o', e4', hb', hc'⟩ := h3' (by omega)
    have hi' : i < l.length := by omega
    refine ⟨b, o, b', o', l[i], e1.trans e4, e1'.trans e4', hs _ (List.getElem_mem _), fun W hW q hq => ⟨?_, ?_⟩⟩
    · have := hc i hi' q hq
      rw [← Nat.add_assoc] at this
      exact (hW.cell (by exact hb)).trans this
    · have := hc' i hi' q hq
      rw [← Nat.add_assoc] at this
      exact (hW.cell (by exact hb')).trans this)
  clear h1 h2 hs hl
  have HB := Lib.hid (Below.refl w.heap.size w)
  go_enter Tryz.func23, Tryz.ntmps23
  go_wp2_with fail
  go_loopw [17] (fun u17 wr => ∃ i : Nat, i ≤ n ∧ u17 = .int .i64 i ∧ Hid (Below w.heap.size w wr)) (fun u _ => n - (intOf u).toNat)
  case atStart => exact ⟨0, by omega, rfl, HB⟩
  case round =>
    clear HB
    obtain ⟨i, hi, rfl, HB⟩ := hrel
    by_cases hlt : i < n
    · have hlz : (i : Int) < (n : Int) := by omega
      obtain ⟨b, o, b2, o2, u, rfl, rfl, hu, hcl⟩ := HC.out i hlt
      obtain ⟨uk, unum, uden, utext, uon, ucode, urows, ucols, uA, un, uc⟩ := u
      dsimp only at hu
      subst hu
      have k0 : wr.cell? ⟨b, o + i * 9, none⟩ = some (.int .i64 uk) := (hcl wr HB.out 0 (by decide)).1
      have k1 : wr.cell? ⟨b, o + i * 9 + 1, none⟩ = some (.string unum) := (hcl wr HB.out 1 (by decide)).1
      have k2 : wr.cell? ⟨b, o + i * 9 + 2, none⟩ = some (.string uden) := (hcl wr HB.out 2 (by decide)).1
      have k3 : wr.cell? ⟨b, o + i * 9 + 3, none⟩ = some (.string utext) := (hcl wr HB.out 3 (by decide)).1
      have k4 : wr.cell? ⟨b, o + i * 9 + 4, none⟩ = some (.bool uon) := (hcl wr HB.out 4 (by decide)).1
      have k5 : wr.cell? ⟨b, o + i * 9 + 5, none⟩ = some (.int .i64 ucode) := (hcl wr HB.out 5 (by decide)).1
      have k6 : wr.cell? ⟨b, o + i * 9 + 6, none⟩ = some (.int .i64 urows) := (hcl wr HB.out 6 (by decide)).1
      have k7 : wr.cell? ⟨b, o + i * 9 + 7, none⟩ = some (.int .i64 ucols) := (hcl wr HB.out 7 (by decide)).1
      have k8 : wr.cell? ⟨b, o + i * 9 + 8, none⟩ = some (.slice uA 0 uc) := (hcl wr HB.out 8 (by decide)).1
      have j0 : wr.cell? ⟨b2, o2 + i * 9, none⟩ = some (.int .i64 uk) := (hcl wr HB.out 0 (by decide)).2
      have j1 : wr.cell? ⟨b2, o2 + i * 9 + 1, none⟩ = some (.string unum) := (hcl wr HB.out 1 (by decide)).2
      have j2 : wr.cell? ⟨b2, o2 + i * 9 + 2, none⟩ = some (.string uden) := (hcl wr HB.out 2 (by decide)).2
      have j3 : wr.cell? ⟨b2, o2 + i * 9 + 3, none⟩ = some (.string utext) := (hcl wr HB.out 3 (by decide)).2
      have j4 : wr.cell? ⟨b2, o2 + i * 9 + 4, none⟩ = some (.bool uon) := (hcl wr HB.out 4 (by decide)).2
      have j5 : wr.cell? ⟨b2, o2 + i * 9 + 5, none⟩ = some (.int .i64 ucode) := (hcl wr HB.out 5 (by decide)).2
      have j6 : wr.cell? ⟨b2, o2 + i * 9 + 6, none⟩ = some (.int .i64 urows) := (hcl wr HB.out 6 (by decide)).2
      have j7 : wr.cell? ⟨b2, o2 + i * 9 + 7, none⟩ = some (.int .i64 ucols) := (hcl wr HB.out 7 (by decide)).2
      have j8 : wr.cell? ⟨b2, o2 + i * 9 + 8, none⟩ = some (.slice uA 0 uc) := (hcl wr HB.out 8 (by decide)).2
      have m0 : (wr.alloc (.cells #[.int .i64 uk, .string unum, .string uden, .string utext, .bool uon, .int .i64 ucode, .int .i64 urows, .int .i64 ucols, .slice uA 0 uc] 26)).cell? ⟨b2, o2 + i * 9, none⟩ = some (.int .i64 uk) := (hcl _ (HB.out.alloc HB.out.size _) 0 (by decide)).2
      have m1 : (wr.alloc (.cells #[.int .i64 uk, .string unum, .string uden, .string utext, .bool uon, .int .i64 ucode, .int .i64 urows, .int .i64 ucols, .slice uA 0 uc] 26)).cell? ⟨b2, o2 + i * 9 + 1, none⟩ = some (.string unum) := (hcl _ (HB.out.alloc HB.out.size _) 1 (by decide)).2
      have m2 : (wr.alloc (.cells #[.int .i64 uk, .string unum, .string uden, .string utext, .bool uon, .int .i64 ucode, .int .i64 urows, .int .i64 ucols, .slice uA 0 uc] 26)).cell? ⟨b2, o2 + i * 9 + 2, none⟩ = some (.string uden) := (hcl _ (HB.out.alloc HB.out.size _) 2 (by decide)).2
      have m3 : (wr.alloc (.cells #[.int .i64 uk, .string unum, .string uden, .string utext, .bool uon, .int .i64 ucode, .int .i64 urows, .int .i64 ucols, .slice uA 0 uc] 26)).cell? ⟨b2, o2 + i * 9 + 3, none⟩ = some (.string utext) := (hcl _ (HB.out.alloc HB.out.size _) 3 (by decide)).2
      have m4 : (wr.alloc (.cells #[.int .i64 uk, .string unum, .string uden, .string utext, .bool uon, .int .i64 ucode, .int .i64 urows, .int .i64 ucols, .slice uA 0 uc] 26)).cell? ⟨b2, o2 + i * 9 + 4, none⟩ = some (.bool uon) := (hcl _ (HB.out.alloc HB.out.size _) 4 (by decide)).2
      have m5 : (wr.alloc (.cells #[.int .i64 uk, .string unum, .string uden, .string utext, .bool uon, .int .i64 ucode, .int .i64 urows, .int .i64 ucols, .slice uA 0 uc] 26)).cell? ⟨b2, o2 + i * 9 + 5, none⟩ = some (.int .i64 ucode) := (hcl _ (HB.out.alloc HB.out.size _) 5 (by decide)).2
      have m6 : (wr.alloc (.cells #[.int .i64 uk, .string unum, .string uden, .string utext, .bool uon, .int .i64 ucode, .int .i64 urows, .int .i64 ucols, .slice uA 0 uc] 26)).cell? ⟨b2, o2 + i * 9 + 6, none⟩ = some (.int .i64 urows) := (hcl _ (HB.out.alloc HB.out.size _) 6 (by decide)).2
      have m7 : (wr.alloc (.cells #[.int .i64 uk, .string unum, .string uden, .string utext, .bool uon, .int .i64 ucode, .int .i64 urows, .int .i64 ucols, .slice uA 0 uc] 26)).cell? ⟨b2, o2 + i * 9 + 7, none⟩ = some (.int .i64 ucols) := (hcl _ (HB.out.alloc HB.out.size _) 7 (by decide)).2
      have m8 : (wr.alloc (.cells #[.int .i64 uk, .string unum, .string uden, .string utext, .bool uon, .int .i64 ucode, .int .i64 urows, .int .i64 ucols, .slice uA 0 uc] 26)).cell? ⟨b2, o2 + i * 9 + 8, none⟩ = some (.slice uA 0 uc) := (hcl _ (HB.out.alloc HB.out.size _) 8 (by decide)).2
      clear hcl
      go_upto_region 7 with fail
      clear k0 j0 m0 k1 j1 m1 k2 j2 m2 k3 j3 m3 k4 j4 m4 k5 j5 m5 k6 j6 m6 k7 j7 m7 k8 j8 m8
      have HX := Lib.hid ((Blk.new wr 26 #[.int .i64 uk, .string unum, .string uden, .string utext, .bool uon, .int .i64 ucode, .int .i64 urows, .int .i64 ucols, .slice uA 0 uc]).alloc (.cells #[.int .i64 uk, .string unum, .string uden, .string utext, .bool uon, .int .i64 ucode, .int .i64 urows, .int .i64 ucols, .slice uA 0 uc] 26))
      have HY := Lib.hid (show Blk ((wr.alloc (.cells #[.int .i64 uk, .string unum, .string uden, .string utext, .bool uon, .int .i64 ucode, .int .i64 urows, .int .i64 ucols, .slice uA 0 uc] 26)).alloc (.cells #[.int .i64 uk, .string unum, .string uden, .string utext, .bool uon, .int .i64 ucode, .int .i64 urows, .int .i64 ucols, .slice uA 0 uc] 26)) (wr.heap.size + 1) 26 #[.int .i64 uk, .string unum, .string uden, .string utext, .bool uon, .int .i64 ucode, .int .i64 urows, .int .i64 ucols, .slice uA 0 uc] from by
        have := Blk.new (wr.alloc (.cells #[.int .i64 uk, .string unum, .string uden, .string utext, .bool uon, .int .i64 ucode, .int .i64 urows, .int .i64 ucols, .slice uA 0 uc] 26)) 26 #[.int .i64 uk, .string unum, .string uden, .string utext, .bool uon, .int .i64 ucode, .int .i64 urows, .int .i64 ucols, .slice uA 0 uc]
        simpa using this)
      have HB2 := Lib.hid ((HB.out.alloc HB.out.size (.cells #[.int .i64 uk, .string unum, .string uden, .string utext, .bool uon, .int .i64 ucode, .int .i64 urows, .int .i64 ucols, .slice uA 0 uc] 26)).alloc (HB.out.alloc HB.out.size (.cells #[.int .i64 uk, .string unum, .string uden, .string utext, .bool uon, .int .i64 ucode, .int .i64 urows, .int .i64 ucols, .slice uA 0 uc] 26)).size (.cells #[.int .i64 uk, .string unum, .string uden, .string utext, .bool uon, .int .i64 ucode, .int .i64 urows, .int .i64 ucols, .slice uA 0 uc] 26))
      revert HX HY HB2
      generalize (wr.alloc (.cells #[.int .i64 uk, .string unum, .string uden, .string utext, .bool uon, .int .i64 ucode, .int .i64 urows, .int .i64 ucols, .slice uA 0 uc] 26)).alloc (.cells #[.int .i64 uk, .string unum, .string uden, .string utext, .bool uon, .int .i64 ucode, .int .i64 urows, .int .i64 ucols, .slice uA 0 uc] 26) = W2
      intro HX HY HB2
      have x0 : W2.cell? ⟨wr.heap.size, 0, none⟩ = some (.int .i64 uk) := HX.out.cell 0
      have x1 : W2.cell? ⟨wr.heap.size, 1, none⟩ = some (.string unum) := HX.out.cell 1
      have x2 : W2.cell? ⟨wr.heap.size, 2, none⟩ = some (.string uden) := HX.out.cell 2
      have x3 : W2.cell? ⟨wr.heap.size, 3, none⟩ = some (.string utext) := HX.out.cell 3
      have x4 : W2.cell? ⟨wr.heap.size, 4, none⟩ = some (.bool uon) := HX.out.cell 4
      have x5 : W2.cell? ⟨wr.heap.size, 5, none⟩ = some (.int .i64 ucode) := HX.out.cell 5
      have x6 : W2.cell? ⟨wr.heap.size, 6, none⟩ = some (.int .i64 urows) := HX.out.cell 6
      have x7 : W2.cell? ⟨wr.heap.size, 7, none⟩ = some (.int .i64 ucols) := HX.out.cell 7
      have x8 : W2.cell? ⟨wr.heap.size, 8, none⟩ = some (.slice uA 0 uc) := HX.out.cell 8
      have y0 : W2.cell? ⟨wr.heap.size + 1, 0, none⟩ = some (.int .i64 uk) := HY.out.cell 0
      have y1 : W2.cell? ⟨wr.heap.size + 1, 1, none⟩ = some (.string unum) := HY.out.cell 1
      have y2 : W2.cell? ⟨wr.heap.size + 1, 2, none⟩ = some (.string uden) := HY.out.cell 2
      have y3 : W2.cell? ⟨wr.heap.size + 1, 3, none⟩ = some (.string utext) := HY.out.cell 3
      have y4 : W2.cell? ⟨wr.heap.size + 1, 4, none⟩ = some (.bool uon) := HY.out.cell 4
      have y5 : W2.cell? ⟨wr.heap.size + 1, 5, none⟩ = some (.int .i64 ucode) := HY.out.cell 5
      have y6 : W2.cell? ⟨wr.heap.size + 1, 6, none⟩ = some (.int .i64 urows) := HY.out.cell 6
      have y7 : W2.cell? ⟨wr.heap.size + 1, 7, none⟩ = some (.int .i64 ucols) := HY.out.cell 7
      have y8 : W2.cell? ⟨wr.heap.size + 1, 8, none⟩ = some (.slice uA 0 uc) := HY.out.cell 8
      have HS := Lib.hid (show Calls Tryz.prog 12 #[.agg #[.int .i64 uk, .string unum, .string uden, .string utext, .bool uon, .int .i64 ucode, .int .i64 urows, .int .i64 ucols, .slice uA 0 uc], .agg #[.int .i64 uk, .string unum, .string uden, .string utext, .bool uon, .int .i64 ucode, .int .i64 urows, .int .i64 ucols, .slice uA 0 uc]] W2 fun e w' => e = .returned (.bool true) ∧ Below W2.heap.size W2 w' from same_v ⟨uk, unum, uden, utext, uon, ucode, urows, ucols, uA, 0, uc⟩ rfl W2)
      go_wp2_with (go_at_call 12; (with_reducible refine HS.out.mono ?_); rintro e w9 ⟨rfl, hb⟩; have HB9 := Lib.hid (HB2.out.trans (hb.mono HB2.out.size)); clear hb)
      go_roundw
      case rel => exact ⟨i + 1, by omega, by go_num, HB9⟩
      case measure => simp [intOf]; omega
    · have hlz : ¬ (i : Int) < (n : Int) := by omega
      obtain rfl : n = i := by omega
      go_wp2_with fail
      go_ret
      exact ⟨rfl, HB.out⟩
/-- Two arrays that read the same are the same. -/
theorem same_arr (r c : Int) (A1 A2 : Option Addr) (n c1 c2 : Nat) (l : List Vl) (w : World) (h1 : Reads 9 csV w (.slice A1 n c1) l) (h2 : Reads 9 csV w (.slice A2 n c2) l) (hs : ∀ u ∈ l, u.n = 0) (hn : n ≤ 100000) :
    Calls Tryz.prog 12 #[.agg #[.int .i64 5, .string ⟨#[]⟩, .string ⟨#[]⟩, .string ⟨#[]⟩, .bool false, .int .i64 0, .int .i64 r, .int .i64 c, .slice A1 n c1], .agg #[.int .i64 5, .string ⟨#[]⟩, .string ⟨#[]⟩, .string ⟨#[]⟩, .bool false, .int .i64 0, .int .i64 r, .int .i64 c, .slice A2 n c2]] w fun e w' => e = .returned (.bool true) ∧ Below w.heap.size w w' :=
  same_h 5 ⟨#[]⟩ ⟨#[]⟩ ⟨#[]⟩ false 0 r c A1 A2 n c1 n c2 w fun W hW => eqf_any A1 A2 n c1 c2 l W (h1.below hW) (h2.below hW) hs hn
end Go.Proofs.YtcnlonaighlmbaaGreatDoor

namespace Go.Proofs.YtcnlonaighlmbaaGreatDoor
end Go.Proofs.YtcnlonaighlmbaaGreatDoor
