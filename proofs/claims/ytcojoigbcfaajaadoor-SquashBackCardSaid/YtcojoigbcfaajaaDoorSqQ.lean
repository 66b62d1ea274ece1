/- squash: rows of whole numbers as functions; what tokens answers (plain); the state of its walk. -/
import Derived.Test.YtcojoigbcfaajaaDoorSqO
import Derived.Test.YtcojoigbcfaajaaDoorRow
namespace Go.Proofs.YtcojoigbcfaajaaDoor
open Go.RowKit

/-- A row of N whole numbers, as a function's values. -/
def RZ (N : Nat) (W : World) (base g : Nat) (f : Nat → Int) : Prop := ∃ c, W.ownsRow base 3 1 (.slice (some ⟨g, 0, none⟩) N c) N ((List.range N).map fun x => Value.int .i64 (f x))
theorem mapz_set (f : Nat → Int) (n i : Nat) (v : Int) : ((List.range n).map fun x => Value.int .i64 (f x)).set i (.int .i64 v) = (List.range n).map fun x => Value.int .i64 (if x = i then v else f x) := by
  apply List.ext_getElem
  · simp
  · intro j h1 h2
    rw [List.getElem_set]
    simp only [List.getElem_map, List.getElem_range]
    by_cases h : i = j
    · rw [if_pos h, if_pos h.symm]
    · rw [if_neg h, if_neg (fun e => h e.symm)]
section
variable {N : Nat} {W W' : World} {base g B : Nat} {f f' : Nat → Int} {G : List Nat}
theorem RZ.cell (h : RZ N W base g f) {i : Nat} (hi : i < N) : W.cell? ⟨g, i, none⟩ = some (.int .i64 (f i)) := by
  obtain ⟨c, h⟩ := h
  have := World.ownsRow.cellAt h i (by omega)
  rw [this]
  simp [hi]
theorem RZ.frozen (h : RZ N W base g f) (i : Nat) : W.frozen? ⟨g, i, none⟩ = false := by
  obtain ⟨c, h⟩ := h
  exact World.ownsRow.frozenAt h i
theorem RZ.set (h : RZ N W base g f) (i : Nat) (v : Int) : RZ N (W.setCell ⟨g, i, none⟩ (.int .i64 v)) base g fun x => if x = i then v else f x := by
  obtain ⟨c, h⟩ := h
  have := (World.ownsRow.stored h i (.int .i64 v)).1
  rw [mapz_set] at this
  exact ⟨c, this⟩
theorem RZ.congr (h : RZ N W base g f) (hf : ∀ x, x < N → f x = f' x) : RZ N W base g f' := by
  obtain ⟨c, h⟩ := h
  have e : ((List.range N).map fun x => Value.int .i64 (f x)) = (List.range N).map fun x => Value.int .i64 (f' x) := List.map_congr_left fun x hx => by rw [hf x (List.mem_range.1 hx)]
  rw [e] at h
  exact ⟨c, h⟩
theorem RZ.lt (h : RZ N W base g f) : base ≤ g ∧ g < W.heap.size := by
  obtain ⟨c, h⟩ := h
  exact World.ownsRow.lt h g rfl
theorem RZ.chg (h : RZ N W base g f) (hc : Chg B G W W') (hB : g < B) (hG : g ∉ G) : RZ N W' base g f := by
  obtain ⟨c, h⟩ := h
  refine ⟨c, h.1, ?_⟩
  rcases h.2 with h0 | ⟨g', cap, cur, e, h1, h2, h3, h4, h5, h6⟩
  · exact .inl h0
  · obtain rfl : g = g' := by injection e with e1; injection e1 with e1; injection e1
    exact .inr ⟨g, cap, cur, e, h1, (hc.block g hB hG).trans h2, h3, h4, h5, h6⟩
theorem RZ.later (h : RZ N W base g f) (hb : Below W.heap.size W W') : RZ N W' base g f := h.chg (Chg.of hb []) h.lt.2 (by simp)
theorem RZ.far (h : RZ N W base g f) {p : Addr} (hp : g ≠ p.block) (u : Value) : RZ N (W.setCell p u) base g f := by
  obtain ⟨c, h⟩ := h
  refine ⟨c, World.ownsRow.kept h (row := some p.block) ⟨rfl, rfl, rfl, by simp [World.setCell], fun k _ hk => Below.heap_setCell _ _ _ _ (fun e => hk (by rw [e]))⟩ ?_⟩
  exact .inr (fun e => hp (by injection e))
theorem RZ.drewN (h : RZ N W base g f) (n : Nat) : RZ N (W.drewN n) base g f := h
theorem RZ.of {h : Nat → Nat} (k : RF N W base g h) : RZ N W base g fun x => (h x : Int) := by
  obtain ⟨c, k⟩ := k
  refine ⟨c, ?_⟩
  have := k
  unfold R1 at this
  rw [List.length_map, List.length_range, List.map_map] at this
  exact this
end

namespace Sq
abbrev Tok := Nat × Nat × Nat × Nat
def tokV (t : Tok) : List Value := [.int .i64 (t.1 : Int), .int .i64 (t.2.1 : Int), .int .i64 (t.2.2.1 : Int), .int .i64 (t.2.2.2 : Int)]
/-- The byte at a place. -/
def bt (s : ByteArray) (i : Nat) : Nat := (s.data.toList.getD i 0).toNat
theorem bt_lt (s : ByteArray) (i : Nat) : bt s i < 256 := UInt8.toNat_lt _
/-- How far two places agree. -/
def mlG (s : ByteArray) (k i : Nat) : Nat → Nat → Nat
  | 0, m => m
  | f + 1, m => if i + m < s.size ∧ bt s (k + m) = bt s (i + m) then mlG s k i f (m + 1) else m
def ml (s : ByteArray) (k i : Nat) : Nat := mlG s k i 520 0
theorem mlG_bd (s : ByteArray) (k i : Nat) : ∀ f m, i + m ≤ s.size → mlG s k i f m ≤ m + f ∧ i + mlG s k i f m ≤ s.size
  | 0, m, h => ⟨Nat.le_refl _, h⟩
  | f + 1, m, h => by
    rw [mlG]
    by_cases hc : i + m < s.size ∧ bt s (k + m) = bt s (i + m)
    · rw [if_pos hc]
      have := mlG_bd s k i f (m + 1) (by omega)
      omega
    · rw [if_neg hc]
      omega
theorem ml_bd (s : ByteArray) (k i : Nat) (h : i ≤ s.size) : ml s k i ≤ 520 ∧ i + ml s k i ≤ s.size := by
  have := mlG_bd s k i 520 0 h
  rw [Nat.zero_add] at this
  exact this
/-- The best of some tries. -/
def bstG (s : ByteArray) (ch : Nat → Int) (i : Nat) : Nat → Int → Nat → Nat → Nat × Nat
  | 0, _, n, fr => (n, fr)
  | t + 1, k, n, fr => if 0 ≤ k ∧ (i : Int) - k ≤ 32768 then (if n < ml s k.toNat i then bstG s ch i t (ch k.toNat) (ml s k.toNat i) k.toNat else bstG s ch i t (ch k.toNat) n fr) else (n, fr)
def best (s : ByteArray) (hd ch : Nat → Int) (i : Nat) : Nat × Nat := if i + 3 ≤ s.size then bstG s ch i 32 (hd (hsh s i)) 0 0 else (0, 0)
/-- What the tables may hold. -/
def TI (i : Nat) (hd ch : Nat → Int) : Prop := ∀ x, -1 ≤ hd x ∧ hd x < i ∧ -1 ≤ ch x ∧ ch x ≤ x
/-- What a search may have found. -/
def BI (s : ByteArray) (i : Nat) (p : Nat × Nat) : Prop := p.1 ≤ 520 ∧ i + p.1 ≤ s.size ∧ (0 < p.1 → p.2 < i ∧ i ≤ p.2 + 32768)
theorem bstG_bd (s : ByteArray) (hd ch : Nat → Int) (i : Nat) (hi : i ≤ s.size) (ht : TI i hd ch) : ∀ t (k : Int) n fr, k < i → BI s i (n, fr) → BI s i (bstG s ch i t k n fr)
  | 0, _, _, _, _, h => h
  | t + 1, k, n, fr, hk, h => by
    rw [bstG]
    by_cases hc : 0 ≤ k ∧ (i : Int) - k ≤ 32768
    · rw [if_pos hc]
      have h4 := (ht k.toNat).2.2.2
      have h5 := ml_bd s k.toNat i hi
      by_cases hn : n < ml s k.toNat i
      · rw [if_pos hn]
        exact bstG_bd s hd ch i hi ht t _ _ _ (by omega) ⟨h5.1, h5.2, fun _ => by show k.toNat < i ∧ i ≤ k.toNat + 32768; omega⟩
      · rw [if_neg hn]
        exact bstG_bd s hd ch i hi ht t _ _ _ (by omega) h
    · rw [if_neg hc]
      exact h
theorem best_bd (s : ByteArray) (hd ch : Nat → Int) (i : Nat) (hi : i ≤ s.size) (ht : TI i hd ch) : BI s i (best s hd ch i) := by
  unfold best
  split
  · exact bstG_bd s hd ch i hi ht _ _ _ _ (ht _).2.1 ⟨by decide, hi, fun h => absurd h (by decide)⟩
  · exact ⟨by decide, hi, fun h => absurd h (by decide)⟩
def hd1 (s : ByteArray) (i : Nat) (hd : Nat → Int) : Nat → Int := if i + 3 ≤ s.size then fun x => if x = hsh s i then (i : Int) else hd x else hd
def ch1 (s : ByteArray) (i : Nat) (hd ch : Nat → Int) : Nat → Int := if i + 3 ≤ s.size then fun x => if x = i then hd (hsh s i) else ch x else ch
theorem TI.step {s : ByteArray} {i : Nat} {hd ch : Nat → Int} (h : TI i hd ch) : TI (i + 1) (hd1 s i hd) (ch1 s i hd ch) := by
  intro x
  have h1 := h x
  have h2 := h (hsh s i)
  unfold hd1 ch1
  by_cases hi : i + 3 ≤ s.size
  · rw [if_pos hi, if_pos hi]
    by_cases hx : x = hsh s i
    · by_cases hy : x = i
      · simp only [if_pos hx, if_pos hy]; omega
      · simp only [if_pos hx, if_neg hy]; omega
    · by_cases hy : x = i
      · simp only [if_neg hx, if_pos hy]; omega
      · simp only [if_neg hx, if_neg hy]; omega
  · rw [if_neg hi, if_neg hi]; omega
/-- Places are put into the tables. -/
def insH (s : ByteArray) : Nat → Nat → (Nat → Int) → Nat → Int
  | 0, _, hd => hd
  | n + 1, i, hd => insH s n (i + 1) (hd1 s i hd)
def insC (s : ByteArray) : Nat → Nat → (Nat → Int) → (Nat → Int) → Nat → Int
  | 0, _, _, ch => ch
  | n + 1, i, hd, ch => insC s n (i + 1) (hd1 s i hd) (ch1 s i hd ch)
theorem TI.many {s : ByteArray} : ∀ {n i : Nat} {hd ch : Nat → Int}, TI i hd ch → TI (i + n) (insH s n i hd) (insC s n i hd ch)
  | 0, _, _, _, h => h
  | n + 1, i, hd, ch, h => by
    have := TI.many (s := s) (n := n) (h.step (s := s))
    rw [show i + (n + 1) = i + 1 + n by omega]
    exact this
theorem insH_succ (s : ByteArray) : ∀ (n i : Nat) (hd : Nat → Int), insH s (n + 1) i hd = hd1 s (i + n) (insH s n i hd)
  | 0, _, _ => rfl
  | n + 1, i, hd => by
    rw [insH, insH_succ s n (i + 1) (hd1 s i hd), show i + 1 + n = i + (n + 1) by omega]
    rfl
theorem insC_succ (s : ByteArray) : ∀ (n i : Nat) (hd ch : Nat → Int), insC s (n + 1) i hd ch = ch1 s (i + n) (insH s n i hd) (insC s n i hd ch)
  | 0, _, _, _ => rfl
  | n + 1, i, hd, ch => by
    rw [insC, insC_succ s n (i + 1) (hd1 s i hd) (ch1 s i hd ch), show i + 1 + n = i + (n + 1) by omega]
    rfl
def adv (s : ByteArray) (hd ch : Nat → Int) (i : Nat) : Nat := if (best s hd ch i).1 < 3 then 1 else (best s hd ch i).1
def tkn (s : ByteArray) (hd ch : Nat → Int) (i : Nat) : Tok := if (best s hd ch i).1 < 3 then (bt s i, 0, 0, 0) else ((mat (best s hd ch i).1).1, (mat (best s hd ch i).1).2.1, (mat (best s hd ch i).1).2.2, i - (best s hd ch i).2 - 1)
/-- The tokens from a place on. -/
def tokG (s : ByteArray) : Nat → Nat → (Nat → Int) → (Nat → Int) → List Tok → List Tok
  | 0, _, _, _, o => o
  | f + 1, i, hd, ch, o => if i < s.size then tokG s f (i + adv s hd ch i) (insH s (adv s hd ch i) i hd) (insC s (adv s hd ch i) i hd ch) (o ++ [tkn s hd ch i]) else o
def tokF (s : ByteArray) : List Tok := tokG s s.size 0 (fun _ => -1) (fun _ => 0) []
theorem tokG_end (s : ByteArray) (f i : Nat) (hd ch : Nat → Int) (o : List Tok) (h : s.size ≤ i) : tokG s f i hd ch o = o := by
  cases f with
  | zero => rfl
  | succ f => rw [tokG, if_neg (by omega)]
theorem adv_bd (s : ByteArray) (hd ch : Nat → Int) (i : Nat) (hi : i < s.size) (ht : TI i hd ch) : 1 ≤ adv s hd ch i ∧ adv s hd ch i ≤ 520 ∧ i + adv s hd ch i ≤ s.size := by
  have h := best_bd s hd ch i (Nat.le_of_lt hi) ht
  have h1 := h.1
  have h2 := h.2.1
  unfold adv
  split <;> omega
end Sq

theorem tk_info : (Tryd.prog.info? 43).map (fun i => (i.zero, i.size, i.bytes)) = some (some (.agg #[.int .i64 0, .int .i64 0, .int .i64 0, .int .i64 0]), 4, 32) := by kernel_rfl
theorem tk_len (x : Sq.Tok) : (Sq.tokV x).length = 4 ∧ ∀ u ∈ Sq.tokV x, u.oneCell' = true := by
  refine ⟨rfl, fun u hu => ?_⟩
  simp only [Sq.tokV, List.mem_cons, List.not_mem_nil, or_false] at hu
  rcases hu with rfl | rfl | rfl | rfl <;> rfl
theorem RowOf.mono {α : Type} {E : TypeId} {size : Nat} {f : α → List Value} {w : World} {v : Value} {l : List α} {base base' : Nat} (h : RowOf E size f w base v l) (hb : base' ≤ base) : RowOf E size f w base' v l := by
  refine ⟨h.1, ?_⟩
  rcases h.2 with h0 | ⟨g, cap, cur, rfl, h1, h2⟩
  · exact .inl h0
  · exact .inr ⟨g, cap, cur, rfl, Nat.le_trans hb h1, h2⟩
theorem RowOf.block {α : Type} {E : TypeId} {size : Nat} {f : α → List Value} {w : World} {v : Value} {l : List α} {base : Nat} (h : RowOf E size f w base v l) : ∀ k, v.ownBlock = some k → base ≤ k ∧ k < w.heap.size := World.ownsRow.lt h
/-- The state of tokens: the string's box, the two tables, the tokens so far. -/
def TJ (w W : World) (gh gc : Nat) (s : ByteArray) (hd ch : Nat → Int) (v : Value) (o : List Sq.Tok) : Prop :=
  W.cell? ⟨w.heap.size, 0, none⟩ = some (.string s) ∧ RZ 32768 W (w.heap.size + 1) gh hd ∧ RZ s.size W (gh + 1) gc ch ∧ RowOf 43 4 Sq.tokV W (gc + 1) v o ∧ Below w.heap.size w W
section
variable {w W W' : World} {gh gc : Nat} {s : ByteArray} {hd ch : Nat → Int} {v v' : Value} {o o' : List Sq.Tok}
theorem TJ.box (h : TJ w W gh gc s hd ch v o) : W.cell? ⟨w.heap.size, 0, none⟩ = some (.string s) := h.1
theorem TJ.b0 (h : TJ w W gh gc s hd ch v o) : w.heap.size < W.heap.size := World.block_lt_of_cell? _ _ h.1
theorem TJ.later (h : TJ w W gh gc s hd ch v o) (hb : Below W.heap.size W W') : TJ w W' gh gc s hd ch v o :=
  ⟨(hb.cell (by exact h.b0)).trans h.1, h.2.1.later hb, h.2.2.1.later hb, h.2.2.2.1.later hb, h.2.2.2.2.trans (hb.mono h.2.2.2.2.size)⟩
theorem TJ.drewN (h : TJ w W gh gc s hd ch v o) (n : Nat) : TJ w (W.drewN n) gh gc s hd ch v o := ⟨h.1, h.2.1, h.2.2.1, h.2.2.2.1, below_drewN h.2.2.2.2 n⟩
theorem TJ.hset (h : TJ w W gh gc s hd ch v o) (i : Nat) (y : Int) : TJ w (W.setCell ⟨gh, i, none⟩ (.int .i64 y)) gh gc s (fun x => if x = i then y else hd x) ch v o := by
  have h1 := h.2.1.lt.1
  have h2 := h.2.2.1.lt.1
  refine ⟨?_, h.2.1.set i y, h.2.2.1.far (p := ⟨gh, i, none⟩) (by show gc ≠ gh; omega) _, h.2.2.2.1.far (p := ⟨gh, i, none⟩) (fun k hk => by have := (h.2.2.2.1.block k hk).1; show k ≠ gh; omega) _, h.2.2.2.2.setCell (p := ⟨gh, i, none⟩) (by show w.heap.size ≤ gh; omega) _⟩
  rw [← h.1]
  exact World.cell?_of_block (a := ⟨w.heap.size, 0, none⟩) (Below.heap_setCell _ _ _ _ (by show w.heap.size ≠ gh; omega))
theorem TJ.cset (h : TJ w W gh gc s hd ch v o) (i : Nat) (y : Int) : TJ w (W.setCell ⟨gc, i, none⟩ (.int .i64 y)) gh gc s hd (fun x => if x = i then y else ch x) v o := by
  have h1 := h.2.1.lt.1
  have h2 := h.2.2.1.lt.1
  refine ⟨?_, h.2.1.far (p := ⟨gc, i, none⟩) (by show gh ≠ gc; omega) _, h.2.2.1.set i y, h.2.2.2.1.far (p := ⟨gc, i, none⟩) (fun k hk => by have := (h.2.2.2.1.block k hk).1; show k ≠ gc; omega) _, h.2.2.2.2.setCell (p := ⟨gc, i, none⟩) (by show w.heap.size ≤ gc; omega) _⟩
  rw [← h.1]
  exact World.cell?_of_block (a := ⟨w.heap.size, 0, none⟩) (Below.heap_setCell _ _ _ _ (by show w.heap.size ≠ gc; omega))
theorem TJ.grow (h : TJ w W gh gc s hd ch v o) (hb : Below (gc + 1) W W') (hr : RowOf 43 4 Sq.tokV W' (gc + 1) v' o') : TJ w W' gh gc s hd ch v' o' := by
  have h1 := h.2.1.lt.1
  have h2 := h.2.2.1.lt.1
  exact ⟨(hb.cell (by show w.heap.size < gc + 1; omega)).trans h.1, h.2.1.chg (Chg.of hb []) (by omega) (by simp), h.2.2.1.chg (Chg.of hb []) (by omega) (by simp), hr, h.2.2.2.2.trans (hb.mono (by omega))⟩
theorem TJ.gcs (h : TJ w W gh gc s hd ch v o) : gc + 1 ≤ W.heap.size := h.2.2.1.lt.2
theorem TJ.hash (h : TJ w W gh gc s hd ch v o) (i : Nat) (hi : i + 3 ≤ s.size) (hs : s.size ≤ 1125899906842624) :
    Calls Tryd.prog 21 #[.int .i64 i, .pointer (some ⟨w.heap.size, 0, none⟩)] W fun e w' => e = .returned (.int .i64 (Sq.hsh s i : Nat)) ∧ TJ w w' gh gc s hd ch v o :=
  (hash_any s i w.heap.size W h.1 hi hs).mono fun _ _ ⟨he, hb⟩ => ⟨he, h.later hb⟩
end
end Go.Proofs.YtcojoigbcfaajaaDoor
