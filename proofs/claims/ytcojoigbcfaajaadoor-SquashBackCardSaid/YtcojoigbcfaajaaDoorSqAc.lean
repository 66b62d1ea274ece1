/- squash: what lengthsOf answers (plain), and bundles in memory. -/
import Derived.Test.YtcojoigbcfaajaaDoorSqAa
import Derived.Test.YtcojoigbcfaajaaDoorSqAb
import Derived.Test.YtcojoigbcfaajaaDoorSqK
import Derived.Test.YtcojoigbcfaajaaDoorSqY
namespace Go.Proofs.YtcojoigbcfaajaaDoor
open Go.RowKit Go.Sort

namespace Sq
def cntF (l : List Tok) (x : Nat) : Nat := (l.map fun t => t.1).count x
def usL (c : Nat → Nat) (n : Nat) : List Nat := (List.range n).filter fun x => decide (0 < c x)
def wt (c : Nat → Nat) (b : List Nat) : Nat := (b.map c).sum
def cmpW (c : Nat → Nat) (x y : List Nat) : Int := wrap64 ((wt c x : Int) - (wt c y : Int))
def srtW (c : Nat → Nat) (L : List (List Nat)) : List (List Nat) := (stab (cmpW c) L.toArray).toList
def lvW (c : Nat → Nat) (k : Nat) : List (List Nat) := lvl (srtW c) (usL c 272) k
/-- The lengths of the codes. -/
def lgF (l : List Tok) (x : Nat) : Nat :=
  if (usL (cntF l) 272).length = 1 then (if x = (usL (cntF l) 272).getD 0 0 then 1 else 0)
  else cnt ((lvW (cntF l) 15).take (2 * (usL (cntF l) 272).length - 2)) x
theorem srtW_perm (c : Nat → Nat) (L : List (List Nat)) : (srtW c L).Perm L := by
  have := (stab_perm (cmpW c) L.toArray).toList
  exact this
theorem usL_step (c : Nat → Nat) (n : Nat) : usL c (n + 1) = if 0 < c n then usL c n ++ [n] else usL c n := by
  unfold usL
  rw [List.range_succ, List.filter_append]
  by_cases h : 0 < c n
  · rw [if_pos h]; simp [h]
  · rw [if_neg h]; simp [h]
theorem usL_mem {c : Nat → Nat} {n x : Nat} : x ∈ usL c n ↔ x < n ∧ 0 < c x := by unfold usL; simp
theorem usL_nodup (c : Nat → Nat) (n : Nat) : (usL c n).Nodup := List.Nodup.sublist List.filter_sublist List.nodup_range
theorem usL_len (c : Nat → Nat) (n : Nat) : (usL c n).length ≤ n := by
  have := List.length_filter_le (fun x => decide (0 < c x)) (List.range n)
  rwa [List.length_range] at this
theorem pairUp_get : ∀ (L : List (List Nat)) (j : Nat) (h : 2 * j + 1 < L.length), (pairUp L)[j]? = some (L[2 * j] ++ L[2 * j + 1])
  | [], j, h => absurd h (by simp)
  | [_], j, h => absurd h (by simp)
  | a :: b :: t, 0, _ => rfl
  | a :: b :: t, j + 1, h => by
    have h2 : 2 * j + 1 < t.length := by simp only [List.length_cons] at h; omega
    have e1 : (a :: b :: t)[2 * (j + 1)] = t[2 * j] := by simp only [show 2 * (j + 1) = 2 * j + 1 + 1 by omega, List.getElem_cons_succ]
    have e2 : (a :: b :: t)[2 * (j + 1) + 1] = t[2 * j + 1] := by simp only [show 2 * (j + 1) + 1 = 2 * j + 1 + 1 + 1 by omega, List.getElem_cons_succ]
    rw [e1, e2, pairUp, List.getElem?_cons_succ]
    exact pairUp_get t j h2
theorem pairUp_take (L : List (List Nat)) (j : Nat) (h : 2 * j + 1 < L.length) : (pairUp L).take (j + 1) = (pairUp L).take j ++ [L[2 * j] ++ L[2 * j + 1]] := by
  have hg := pairUp_get L j h
  rw [List.take_add_one, hg]
  rfl
theorem pairUp_done (L : List (List Nat)) (j : Nat) (h : ¬ 2 * j + 1 < L.length) : (pairUp L).take j = pairUp L := List.take_of_length_le (by rw [pairUp_len]; omega)
/-- What is known of a bundle of a level. -/
def BB (c : Nat → Nat) (M k : Nat) (b : List Nat) : Prop := wt c b ≤ 2 ^ k * M ∧ b.length ≤ 2 ^ k ∧ 0 < b.length ∧ ∀ x ∈ b, x < 272
theorem wt_app (c : Nat → Nat) (a b : List Nat) : wt c (a ++ b) = wt c a + wt c b := by unfold wt; rw [List.map_append, List.sum_append]
theorem pairUp_all {Q R : List Nat → Prop} (h : ∀ a b, Q a → Q b → R (a ++ b)) : ∀ L : List (List Nat), (∀ b ∈ L, Q b) → ∀ b ∈ pairUp L, R b
  | [], _, b, hb => absurd hb (by simp [pairUp])
  | [_], _, b, hb => absurd hb (by simp [pairUp])
  | x :: y :: t, hl, b, hb => by
    rw [pairUp] at hb
    rcases List.mem_cons.1 hb with rfl | hb
    · exact h x y (hl x (by simp)) (hl y (by simp))
    · exact pairUp_all h t (fun z hz => hl z (by simp [hz])) b hb
theorem lvW_bd (c : Nat → Nat) (M : Nat) (hM : ∀ x, c x ≤ M) : ∀ k, ∀ b ∈ lvW c k, BB c M k b
  | 0, b, hb => absurd hb (by simp [lvW, lvl])
  | k + 1, b, hb => by
    have ih := lvW_bd c M hM k
    have hp := (srtW_perm c (pairUp (lvl (srtW c) (usL c 272) k) ++ (usL c 272).map fun x => [x])).mem_iff.1 hb
    have e : 2 ^ (k + 1) = 2 * 2 ^ k := by rw [Nat.pow_succ]; omega
    have h1 : 1 ≤ 2 ^ k := Nat.one_le_two_pow
    rcases List.mem_append.1 hp with hp | hp
    · refine pairUp_all (Q := BB c M k) (R := BB c M (k + 1)) (fun a b h1 h2 => ?_) _ ih b hp
      obtain ⟨a1, a2, a3, a4⟩ := h1
      obtain ⟨b1, b2, b3, b4⟩ := h2
      refine ⟨?_, by rw [List.length_append, e]; omega, by rw [List.length_append]; omega, fun x hx => (List.mem_append.1 hx).elim (a4 x) (b4 x)⟩
      rw [wt_app, e, Nat.mul_assoc]
      omega
    · obtain ⟨x, hx, rfl⟩ := List.mem_map.1 hp
      refine ⟨?_, ?_, by simp, fun y hy => by rw [List.mem_singleton.1 hy]; exact (usL_mem.1 hx).1⟩
      · have := hM x
        have h2 : 1 * M ≤ 2 ^ (k + 1) * M := Nat.mul_le_mul_right _ Nat.one_le_two_pow
        unfold wt
        simp only [List.map_cons, List.map_nil, List.sum_cons, List.sum_nil]
        omega
      · simp only [List.length_cons, List.length_nil]
        exact Nat.one_le_two_pow
theorem lenOf_lt (m : Nat) (hm : 0 < m) : ∀ k, lenOf m k < 2 * m
  | 0 => by rw [lenOf]; omega
  | k + 1 => by
    have := lenOf_lt m hm k
    rw [lenOf]
    omega
theorem lvW_len (c : Nat → Nat) (k : Nat) : (lvW c k).length = lenOf (usL c 272).length k := lvl_len _ (srtW_perm c) _ k
theorem lvW_len_le (c : Nat → Nat) (k : Nat) : (lvW c k).length ≤ 544 := by
  rw [lvW_len]
  have h := usL_len c 272
  rcases Nat.eq_zero_or_pos (usL c 272).length with h0 | h0
  · rw [h0]
    have : ∀ k, lenOf 0 k = 0 := fun k => by
      induction k with
      | zero => rfl
      | succ k ih => rw [lenOf, ih]
    rw [this]
    omega
  · have := lenOf_lt _ h0 k
    omega
theorem cnt_take (L : List (List Nat)) (j : Nat) (h : j < L.length) (x : Nat) : cnt (L.take (j + 1)) x = cnt (L.take j) x + L[j].count x := by
  rw [List.take_add_one, List.getElem?_eq_getElem h, cnt_append]
  simp [cnt]
theorem cnt_take_le (L : List (List Nat)) (M : Nat) (hM : ∀ b ∈ L, b.length ≤ M) (x : Nat) : ∀ j, cnt (L.take j) x ≤ j * M
  | 0 => by simp [cnt]
  | j + 1 => by
    have ih := cnt_take_le L M hM x j
    by_cases h : j < L.length
    · rw [cnt_take L j h x, Nat.add_mul]
      have h1 := hM _ (List.getElem_mem h)
      have h2 := List.count_le_length (a := x) (l := L[j])
      omega
    · rw [List.take_of_length_le (by omega)]
      rw [List.take_of_length_le (by omega)] at ih
      rw [Nat.add_mul]
      omega
end Sq

theorem bu_info : (Tryd.prog.info? 71).map (fun i => (i.zero, i.size, i.bytes)) = some (some (.agg #[.int .i64 0, .slice none 0 0]), 2, 32) := by kernel_rfl
theorem sbE_ok (x : SB) : (sbE x).length = 2 ∧ ∀ u ∈ sbE x, u.oneCell' = true := ⟨sbE_len x, sbE_one x⟩
theorem wt_info : (Tryd.prog.info? 68).map (fun i => (i.zero, i.size, i.bytes)) = some (some (.agg #[.int .i64 0, .int .i64 0]), 2, 16) := by kernel_rfl
def wtV (t : Nat × Nat) : List Value := [.int .i64 (t.1 : Int), .int .i64 (t.2 : Int)]
theorem wtV_ok (x : Nat × Nat) : (wtV x).length = 2 ∧ ∀ u ∈ wtV x, u.oneCell' = true := by
  refine ⟨rfl, fun u hu => ?_⟩
  simp only [wtV, List.mem_cons, List.not_mem_nil, or_false] at hu
  rcases hu with rfl | rfl <;> rfl

/-- A bundle in memory. -/
def BW (c : Nat → Nat) (W : World) (B : Nat) (x : SB) (b : List Nat) : Prop := x.1 = (Sq.wt c b : Int) ∧ R1 3 .i64 W B (.slice x.2.1 x.2.2.1 x.2.2.2) b
inductive All2 {α β : Type} (R : α → β → Prop) : List α → List β → Prop
  | nil : All2 R [] []
  | cons {x y l m} : R x y → All2 R l m → All2 R (x :: l) (y :: m)
theorem All2.len {α β : Type} {R : α → β → Prop} {l : List α} {m : List β} (h : All2 R l m) : l.length = m.length := by
  induction h with
  | nil => rfl
  | cons _ _ ih => simp [ih]
theorem All2.imp {α β : Type} {R S : α → β → Prop} {l : List α} {m : List β} (h : All2 R l m) (hs : ∀ x ∈ l, ∀ y, R x y → S x y) : All2 S l m := by
  induction h with
  | nil => exact .nil
  | cons h1 _ ih => exact .cons (hs _ (by simp) _ h1) (ih fun x hx => hs x (by simp [hx]))
theorem All2.app {α β : Type} {R : α → β → Prop} {l : List α} {m : List β} (h : All2 R l m) {x : α} {y : β} (h1 : R x y) : All2 R (l ++ [x]) (m ++ [y]) := by
  induction h with
  | nil => exact .cons h1 .nil
  | cons h2 _ ih => exact .cons h2 ih
theorem All2.get {α β : Type} {R : α → β → Prop} {l : List α} {m : List β} (h : All2 R l m) : ∀ (i : Nat) (h1 : i < l.length) (h2 : i < m.length), R l[i] m[i] := by
  induction h with
  | nil => intro i h1; simp at h1
  | cons h3 _ ih =>
    intro i h1 h2
    cases i with
    | zero => exact h3
    | succ i => exact ih i (by simpa using h1) (by simpa using h2)
/-- A level that is read. -/
def LV (c : Nat → Nat) (W : World) (B : Nat) (v : Value) (L : List (List Nat)) : Prop := ∃ d, Reads 2 sbE W v d ∧ All2 (BW c W B) d L ∧ ∀ g, v.ownBlock = some g → B ≤ g
/-- A level that is being made. -/
def NX (c : Nat → Nat) (W : World) (B : Nat) (v : Value) (L : List (List Nat)) : Prop := ∃ d, RowOf 71 2 sbE W B v d ∧ All2 (BW c W B) d L ∧ ∀ x ∈ d, ∀ g, v.ownBlock = some g → (Value.slice x.2.1 x.2.2.1 x.2.2.2).ownBlock ≠ some g
section
variable {c : Nat → Nat} {W W' : World} {B B' : Nat} {v v' : Value} {L L' : List (List Nat)} {b : List Nat} {x : SB}
theorem BW.later (h : BW c W B x b) (hb : Below W.heap.size W W') : BW c W' B x b := ⟨h.1, h.2.later hb⟩
theorem BW.mono (h : BW c W B x b) (hb : B' ≤ B) : BW c W B' x b := ⟨h.1, h.2.mono hb⟩
theorem LV.later (h : LV c W B v L) (hb : Below W.heap.size W W') : LV c W' B v L := by
  obtain ⟨d, h1, h2, h3⟩ := h
  exact ⟨d, h1.below hb, h2.imp fun _ _ _ k => k.later hb, h3⟩
theorem LV.mono (h : LV c W B v L) (hb : B' ≤ B) : LV c W B' v L := by
  obtain ⟨d, h1, h2, h3⟩ := h
  exact ⟨d, h1, h2.imp fun _ _ _ k => k.mono hb, fun g hg => Nat.le_trans hb (h3 g hg)⟩
theorem LV.nil : LV c W B (.slice none 0 0) [] := ⟨[], Reads.nil _, .nil, fun _ h => by cases h⟩
theorem LV.shape (h : LV c W B v L) : ∃ A c', v = .slice A L.length c' := by
  obtain ⟨d, h1, h2, _⟩ := h
  rw [← h2.len]
  exact h1.shape
theorem LV.chg {g : Nat} (h : LV c W B v L) (hc : Chg W.heap.size [g] W W') (hg : g < B) : LV c W' B v L := by
  obtain ⟨d, ⟨A, c', e, h1, h4, h5⟩, h2, h3⟩ := h
  refine ⟨d, ⟨A, c', e, h1, h4, fun hl => ?_⟩, h2.imp fun x _ y k => ⟨k.1, k.2.chg hc fun q hq => ⟨(k.2.lt q hq).2, ?_⟩⟩, h3⟩
  · obtain ⟨b, o, e2, h6, h7⟩ := h5 hl
    have hb : B ≤ b := h3 b (by rw [e, e2]; rfl)
    have hne : b ∉ [g] := fun hm => by rw [List.mem_singleton.1 hm] at hb; omega
    exact ⟨b, o, e2, Nat.lt_of_lt_of_le h6 hc.size, fun i hi j hj => (World.cell?_of_block (a := ⟨b, _, none⟩) (hc.block b h6 hne)).trans (h7 i hi j hj)⟩
  · intro hm
    have := (k.2.lt q hq).1
    rw [List.mem_singleton.1 hm] at this
    omega
theorem NX.nil : NX c W B (.slice none 0 0) [] := ⟨[], RowOf.nil _ _, .nil, fun _ h => absurd h (by simp)⟩
theorem NX.later (h : NX c W B v L) (hb : Below W.heap.size W W') : NX c W' B v L := by
  obtain ⟨d, h1, h2, h3⟩ := h
  exact ⟨d, h1.later hb, h2.imp fun _ _ _ k => k.later hb, h3⟩
theorem NX.lt (h : NX c W B v L) : ∀ g, v.ownBlock = some g → B ≤ g ∧ g < W.heap.size := by
  obtain ⟨d, h1, _⟩ := h
  exact World.ownsRow.lt h1
theorem NX.shape (h : NX c W B v L) : ∃ A c', v = .slice A L.length c' := by
  obtain ⟨d, h1, h2, _⟩ := h
  rw [← h2.len]
  rcases Nat.eq_zero_or_pos d.length with h0 | h0
  · rcases h1.2 with ⟨rfl, _⟩ | ⟨g, cap, cur, rfl, _⟩
    · rw [h0]; exact ⟨_, _, rfl⟩
    · exact ⟨_, _, rfl⟩
  · obtain ⟨g, cc, e, _, _⟩ := h1.form h0
    exact ⟨_, _, e⟩
end
theorem R1.grown {E : TypeId} {K : IntKind} {w w' : World} {base : Nat} {v : Value} {l : List Nat} {row : Option Nat} (h : R1 E K w base v l) (hg : w.grownBy w' row) (hne : v.ownBlock = none ∨ v.ownBlock ≠ row) : R1 E K w' base v l := World.ownsRow.kept h hg hne
theorem nx_app {c : Nat → Nat} {w w' : World} {B : Nat} {v v' : Value} {L : List (List Nat)} {d : List SB} (h1 : RowOf 71 2 sbE w B v d) (h2 : All2 (BW c w B) d L) (h3 : ∀ x ∈ d, ∀ g, v.ownBlock = some g → (Value.slice x.2.1 x.2.2.1 x.2.2.2).ownBlock ≠ some g) (y : SB) (b : List Nat) (hy : BW c w B y b) (hne : ∀ g, v.ownBlock = some g → (Value.slice y.2.1 y.2.2.1 y.2.2.2).ownBlock ≠ some g) (cs : Array Value) (hbase : B ≤ w.heap.size)
    (k1 : w'.ownsRow B 71 2 v' (d.length + 1) (d.flatMap sbE ++ sbE y)) (k2 : (w.alloc (.cells cs 71)).grownBy w' v.ownBlock) (k4 : v'.ownBlock = v.ownBlock ∨ v'.ownBlock = some (w.alloc (.cells cs 71)).heap.size) : NX c w' B v' (L ++ [b]) ∧ Below B w w' := by
  have hl := h2.len
  have hsz : (w.alloc (.cells cs 71)).heap.size = w.heap.size + 1 := Array.size_push _
  have hB1 := (Below.refl w.heap.size w).alloc (Nat.le_refl _) (.cells cs 71)
  have hkeep : ∀ (z : SB) (m : List Nat), (∀ g, v.ownBlock = some g → (Value.slice z.2.1 z.2.2.1 z.2.2.2).ownBlock ≠ some g) → BW c w B z m → BW c w' B z m ∧ ∀ g, v'.ownBlock = some g → (Value.slice z.2.1 z.2.2.1 z.2.2.2).ownBlock ≠ some g := by
    intro z m hz hm
    have hm1 := hm.2.later hB1
    refine ⟨⟨hm.1, hm1.grown k2 ?_⟩, fun g hg e => ?_⟩
    · cases hv : v.ownBlock with
      | none => cases hq : (Value.slice z.2.1 z.2.2.1 z.2.2.2).ownBlock with
        | none => exact .inl rfl
        | some q => exact .inr (by simp)
      | some g => exact .inr (hz g hv)
    · have hlt := (hm.2.lt g e).2
      rcases k4 with k4 | k4
      · exact hz g (k4 ▸ hg) e
      · rw [k4, hsz] at hg
        injection hg with hg
        omega
  refine ⟨⟨d ++ [y], ?_, ?_, ?_⟩, ?_⟩
  · unfold RowOf
    rw [List.flatMap_append, List.length_append]
    simpa using k1
  · refine All2.app ?_ (hkeep y b hne hy).1
    exact h2.imp fun z hz m hm => (hkeep z m (fun g hg => h3 z hz g hg) hm).1
  · intro z hz
    rcases List.mem_append.1 hz with hz | hz
    · obtain ⟨i, hi1, rfl⟩ := List.mem_iff_getElem.1 hz
      exact (hkeep _ _ (fun g hg => h3 _ hz g hg) (h2.get i hi1 (by omega))).2
    · rw [List.mem_singleton.1 hz]
      exact (hkeep y b hne hy).2
  · exact ((Below.refl _ _).alloc hbase _).grown k2 (by rw [hsz]; omega) (fun k hk => ((World.ownsRow.lt h1) k hk).1)
section
variable {ops : Array Oper} {rest : List Oper} {o : Oper} {a : Act} {Q : Exit → Act → World → Prop} {K : Act → World → Prop} {X : Prop}
/-- append of one bundle. -/
theorem wp_appBu {c : Nat → Nat} {w : World} (hgd : o.guard = none) (s x : Operand) (ho : o.op = .call { callee := .builtin .append, args := #[s, x], argTypes := #[69, 69] })
    (B : Nat) (v : Value) (L : List (List Nat)) (hs : a.eval s = v) (hown : NX c w B v L) (y : SB) (b : List Nat) (hy : BW c w B y b) (hne : ∀ g, v.ownBlock = some g → (Value.slice y.2.1 y.2.2.1 y.2.2.2).ownBlock ≠ some g) (cs : Array Value) (hcs : cs.toList = sbE y) (H : Nat) (hH : w.heap.size = H) (hx : a.eval x = .slice (some ⟨H, 0, none⟩) 1 1)
    (hlen : L.length + 1 ≤ 1099511627776) (hbase : B ≤ w.heap.size)
    (h : ∀ v' w', NX c w' B v' (L ++ [b]) → Below B w w' → wpList Tryd.prog ops Q rest (a.put o.dst v') w') :
    wpList Tryd.prog ops Q (o :: rest) a (w.alloc (.cells cs 71)) := by
  subst hH
  obtain ⟨d, h1, h2, h3⟩ := hown
  have hl := h2.len
  obtain ⟨i0, hi, hz0, hz1, hz2⟩ := info_parts bu_info
  have hsz : (w.alloc (.cells cs 71)).heap.size = w.heap.size + 1 := Array.size_push _
  refine wpList_append_own_at _ hgd s x 69 ho B 71 i0 (.agg #[.int .i64 0, .slice none 0 0]) 2 32 Tryd.underlying69 hi hz0 hz1 hz2 rfl (by decide) v d.length (d.flatMap sbE) hs (h1.alloc _) ⟨w.heap.size, 0, none⟩ 1 1 (sbE y) hx (by rw [sbE_len]) (by rw [← hcs]; exact news_new _ _ _) (sbE_one y) (by unfold maxLen; omega) (by omega) (by rw [hsz]; omega) ?_
  intro v' w' k1 k2 _ k4
  have := nx_app h1 h2 h3 y b hy hne cs hbase k1 k2 k4
  exact h v' w' this.1 this.2
/-- The same, at a step of a region that draws. -/
theorem step_appBu {c : Nat → Nat} {w : World} (hgd : o.guard = none) (s x : Operand) (ho : o.op = .call { callee := .builtin .append, args := #[s, x], argTypes := #[69, 69] })
    (B : Nat) (v : Value) (L : List (List Nat)) (hs : a.eval s = v) (hown : NX c w B v L) (y : SB) (b : List Nat) (hy : BW c w B y b) (hne : ∀ g, v.ownBlock = some g → (Value.slice y.2.1 y.2.2.1 y.2.2.2).ownBlock ≠ some g) (cs : Array Value) (hcs : cs.toList = sbE y) (H : Nat) (hH : w.heap.size = H) (hx : a.eval x = .slice (some ⟨H, 0, none⟩) 1 1)
    (hlen : L.length + 1 ≤ 1099511627776) (hbase : B ≤ w.heap.size)
    (h : ∀ g n cap w', NX c w' B (.slice (some ⟨g, 0, none⟩) n cap) (L ++ [b]) → Below B w w' → K (a.put o.dst (.slice (some ⟨g, 0, none⟩) n cap)) w') :
    if Region.wanted o (yielded ops a.tmps) = true then Oper.wp Tryd.prog o a (w.alloc (.cells cs 71)) K Q else X := by
  subst hH
  obtain ⟨d, h1, h2, h3⟩ := hown
  have hl := h2.len
  obtain ⟨i0, hi, hz0, hz1, hz2⟩ := info_parts bu_info
  have hsz : (w.alloc (.cells cs 71)).heap.size = w.heap.size + 1 := Array.size_push _
  refine step_append_lies (P := Tryd.prog) (w.alloc (.cells cs 71)) hgd s x 69 ho B 71 i0 (.agg #[.int .i64 0, .slice none 0 0]) 2 32 Tryd.underlying69 hi hz0 hz1 hz2 rfl (by decide) v d.length (d.flatMap sbE) hs (h1.alloc _) ⟨w.heap.size, 0, none⟩ 1 1 (sbE y) hx (by rw [sbE_len]) (by rw [← hcs]; exact news_new _ _ _) (sbE_one y) (by decide) (by unfold maxLen; omega) (by omega) (by rw [hsz]; omega) _ rfl ?_
  intro g cap w' k1 k2 k4 _
  have := nx_app h1 h2 h3 y b hy hne cs hbase k1 k2 (k4.elim (fun e => .inl e.symm) fun e => .inr (by rw [← e]; rfl))
  exact h g _ cap w' this.1 this.2
end

theorem r1_new (W : World) (B : Nat) (hB : B ≤ W.heap.size) (x : Nat) : R1 3 .i64 (W.alloc (.cells #[.int .i64 (x : Int)] 3)) B (.slice (some ⟨W.heap.size, 0, none⟩) 1 1) [x] :=
  ⟨rfl, .inr ⟨W.heap.size, 1, _, rfl, hB, heap_alloc_new _ _, Nat.le_refl _, by unfold maxLen; decide, rfl, rfl⟩⟩
/-- Behind a sort. -/
theorem swk_chg {α : Type} [Inhabited α] {enc : α → List Value} {k g off : Nat} {w W : World} {d : Array α} (h : SWK enc k w g off d W) : Chg w.heap.size [g] w W := by
  obtain ⟨n, os, rfl⟩ := h
  refine ⟨rfl, rfl, rfl, ?_, fun q hq hg => ?_⟩
  · show w.heap.size ≤ (grow (putRowK enc k (Sort.ahead w n) g off d) os).heap.size
    rw [size_grow]
    show w.heap.size ≤ (putRow id (Sort.ahead w n) g off (flatK enc k d)).heap.size + _
    rw [size_putRow]
    show w.heap.size ≤ w.heap.size + _
    omega
  · show (grow (putRowK enc k (Sort.ahead w n) g off d) os).heap[q]? = _
    have hs : (putRowK enc k (Sort.ahead w n) g off d).heap.size = w.heap.size := size_putRow id (Sort.ahead w n) g off (flatK enc k d)
    rw [heap_grow_old _ _ (by rw [hs]; exact hq)]
    show ((Sort.ahead w n).heap.modify g _)[q]? = _
    have hne : g ≠ q := fun e => hg (by simp [e])
    rw [Array.getElem?_modify, if_neg hne]
    rfl
theorem holds_row {g n cap B : Nat} {d : List SB} {w : World} (h : RowOf 71 2 sbE w B (.slice (some ⟨g, 0, none⟩) n cap) d) : HoldsK sbE 2 w g 0 d.toArray := by
  have hn : n = d.length := by
    rcases h.2 with ⟨e, -⟩ | ⟨_, _, _, e, _⟩
    · injection e with e; exact absurd e (by simp)
    · injection e
  subst hn
  intro j hj
  rw [size_flatK] at hj
  have hj2 : j < d.length * 2 := by simpa using hj
  have hl : (d.flatMap sbE).length = d.length * 2 := flat_len sbE 2 sbE_len d
  have hc := World.ownsRow.cellAt (show w.ownsRow B 71 2 (.slice (some ⟨g, 0, none⟩) d.length cap) d.length (d.flatMap sbE) from h) j (by omega)
  refine ⟨?_, ?_⟩
  · rw [Nat.zero_add, hc, get_flatK _ _ _ _ hj]
    have e1 := flat_get sbE 2 sbE_len d (j / 2) (j % 2) (by omega) (by omega)
    rw [show j / 2 * 2 + j % 2 = j by omega] at e1
    rw [e1]
    have h2 : j / 2 < d.length := by omega
    have e2 : d.toArray[j / 2]! = d[j / 2] := by
      rw [getElem!_pos d.toArray (j / 2) (by simpa using h2)]
      rfl
    rw [e2]
    have h3 : j % 2 < (sbE d[j / 2]).length := by rw [sbE_len]; omega
    rw [List.getElem?_eq_getElem h3, getElem!_pos (sbE d[j / 2]) (j % 2) h3]
    rfl
  · exact World.ownsRow.frozenAt (show w.ownsRow B 71 2 (.slice (some ⟨g, 0, none⟩) d.length cap) d.length (d.flatMap sbE) from h) (0 + j)
theorem reads_holds {g cap : Nat} {d : Array SB} {w : World} (h : HoldsK sbE 2 w g 0 d) (hg : g < w.heap.size) (hc : d.size ≤ cap) : Reads 2 sbE w (.slice (some ⟨g, 0, none⟩) d.size cap) d.toList := by
  refine ⟨_, cap, rfl, hc, (fun h => by cases h), fun _ => ⟨g, 0, rfl, hg, fun i hi j hj => ?_⟩⟩
  have hi2 : i < d.size := hi
  have := (HoldsK.cell h (c := j) hi2 hj).1
  rw [Nat.zero_add] at this
  rw [Nat.zero_add, this]
  have h3 : j < (sbE d[i]).length := by rw [sbE_len]; exact hj
  rw [getElem!_pos d i hi2, getElem!_pos (sbE d[i]) j h3]
  exact (List.getElem?_eq_getElem h3).symm
/-- Bundles with their symbols. -/
abbrev PB (c : Nat → Nat) : Type := {p : SB × List Nat // p.1.1 = (Sq.wt c p.2 : Int)}
instance (c : Nat → Nat) : Inhabited (PB c) := ⟨⟨((0, none, 0, 0), []), rfl⟩⟩
theorem pairs_of {c : Nat → Nat} {w : World} {B : Nat} {d : List SB} {L : List (List Nat)} (h : All2 (BW c w B) d L) : ∃ P : List (PB c), P.map (fun p => p.1.1) = d ∧ P.map (fun p => p.1.2) = L ∧ ∀ p ∈ P, BW c w B p.1.1 p.1.2 := by
  induction h with
  | nil => exact ⟨[], rfl, rfl, fun p hp => absurd hp (by simp)⟩
  | cons h1 _ ih =>
    obtain ⟨P, e1, e2, h3⟩ := ih
    refine ⟨⟨(_, _), h1.1⟩ :: P, by rw [List.map_cons, e1], by rw [List.map_cons, e2], fun p hp => ?_⟩
    rcases List.mem_cons.1 hp with rfl | hp
    · exact h1
    · exact h3 p hp
theorem All2.maps {γ α β : Type} {R : α → β → Prop} {f : γ → α} {k : γ → β} : ∀ l : List γ, (∀ x ∈ l, R (f x) (k x)) → All2 R (l.map f) (l.map k)
  | [], _ => .nil
  | x :: t, h => .cons (h x (by simp)) (All2.maps t fun y hy => h y (by simp [hy]))
theorem sort_nx (c : Nat → Nat) (v : Value) (L : List (List Nat)) (w : World) (B : Nat) (h : NX c w B v L) (hL : 0 < L.length) (hl : L.length ≤ 100000) :
    Calls Tryd.prog 24 #[v, .func (.func 25) #[] #[]] w fun e w' => e = .returned (.tuple #[]) ∧ LV c w' B v (Sq.srtW c L) ∧ Below B w w' := by
  obtain ⟨d, h1, h2, h3⟩ := h
  have hd := h2.len
  obtain ⟨g, cap, rfl, hgB, hgl⟩ := h1.form (by omega)
  have hcap : d.length ≤ cap := by
    rcases h1.2 with ⟨e, -⟩ | ⟨_, _, _, e, _, _, hc, _⟩
    · cases e
    · injection e with _ _ e; omega
  have hs := sort_any d.toArray g cap w (holds_row h1) hgl (by simp; omega)
  rw [List.size_toArray] at hs
  refine hs.mono fun e w' ⟨he, hw⟩ => ⟨he, ?_, (swk_chg hw).below (by omega) (fun x hx => by rw [List.mem_singleton.1 hx]; exact hgB)⟩
  have hH := hw.holds hgl (holds_row h1) (Sq.stab_perm sbC d.toArray).size_eq
  have hlt := hw.lt hgl
  have hrd := reads_holds hH hlt (by rw [(Sq.stab_perm sbC d.toArray).size_eq, List.size_toArray]; exact hcap)
  rw [(Sq.stab_perm sbC d.toArray).size_eq, List.size_toArray] at hrd
  refine ⟨_, hrd, ?_, fun q hq => by have e2 : some g = some q := hq; injection e2 with e2; omega⟩
  obtain ⟨P, e1, e2, h4⟩ := pairs_of h2
  have m1 := Sq.stab_map (f := fun p : PB c => p.1.1) (ca := fun p q => sbC p.1.1 q.1.1) (cb := sbC) rfl (fun _ _ => rfl) P.toArray
  have m2 := Sq.stab_map (f := fun p : PB c => p.1.2) (ca := fun p q => sbC p.1.1 q.1.1) (cb := Sq.cmpW c) rfl (fun p q => by unfold Sq.cmpW sbC; rw [p.2, q.2]) P.toArray
  rw [List.map_toArray, e1] at m1
  rw [List.map_toArray, e2] at m2
  unfold Sq.srtW
  rw [m1, m2, Array.toList_map, Array.toList_map]
  refine All2.maps _ fun p hp => ?_
  have hpP : p ∈ P := (Sq.stab_perm _ P.toArray).toList.mem_iff.1 hp
  have hb := h4 p hpP
  have hpd : p.1.1 ∈ d := by rw [← e1]; exact List.mem_map.2 ⟨p, hpP, rfl⟩
  exact ⟨hb.1, hb.2.chg (swk_chg hw) fun q hq => ⟨(hb.2.lt q hq).2, fun hm => h3 _ hpd g rfl (by rw [hq, List.mem_singleton.1 hm])⟩⟩
end Go.Proofs.YtcojoigbcfaajaaDoor
