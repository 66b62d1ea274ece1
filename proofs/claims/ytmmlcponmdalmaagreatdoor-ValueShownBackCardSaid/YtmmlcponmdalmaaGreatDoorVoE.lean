/- Words for memory: a row of the call's own whose elements are of any type of a fixed number of cells; a slice value that reads as a list of such elements. -/
import Derived.Test.YtmmlcponmdalmaaGreatDoorRows
import Derived.WalkKit
import Derived.Lib.Hide
import Derived.Lib.Builder
import Derived.Deep.Draws
import Derived.Maps.AppendAt
import Derived.Deep.AppendLies
import Derived.OwnWalk
import Derived.Laws.OwnMore
import Derived.Laws.AppendOwnNone
import Derived.Test.YtmmlcponmdalmaaGreatDoorVoA
import Derived.Test.YtmmlcponmdalmaaGreatDoorVaI
import Derived.Lib.SmallJoins
import Derived.Deep.Slices
import Derived.Deep.Fields
import Derived.ChangeSame
import Derived.ProofKit
import Derived.Laws.Entries
namespace Go.Proofs.YtmmlcponmdalmaaGreatDoor
open Go.RowKit

theorem flat_get {α β : Type} (f : α → List β) (size : Nat) (hf : ∀ x, (f x).length = size) : ∀ (l : List α) (i j : Nat) (h : i < l.length), j < size → (l.flatMap f)[i * size + j]? = (f l[i])[j]?
  | [], i, j, h, _ => by simp at h
  | x :: t, 0, j, _, hj => by
    rw [List.flatMap_cons, List.getElem?_append_left (by rw [hf]; omega)]
    simp
  | x :: t, i + 1, j, h, hj => by
    have ih := flat_get f size hf t i j (by simpa using h) hj
    rw [List.flatMap_cons, List.getElem?_append_right (by rw [hf, Nat.add_mul]; omega), hf, show (i + 1) * size + j - size = i * size + j by rw [Nat.add_mul]; omega, ih]
    rfl
theorem flat_len {α β : Type} (f : α → List β) (size : Nat) (hf : ∀ x, (f x).length = size) : ∀ l : List α, (l.flatMap f).length = l.length * size
  | [] => by simp
  | x :: t => by rw [List.flatMap_cons, List.length_append, hf, flat_len f size hf t, List.length_cons, Nat.add_mul]; omega

/-- The value owns a row of the call's own that reads as the elements l. -/
def RowOf {α : Type} (E : TypeId) (size : Nat) (f : α → List Value) (w : World) (base : Nat) (v : Value) (l : List α) : Prop := w.ownsRow base E size v l.length (l.flatMap f)
/-- The value reads as the elements l. -/
def Reads {α : Type} (size : Nat) (f : α → List Value) (w : World) (v : Value) (l : List α) : Prop :=
  ∃ A c, v = .slice A l.length c ∧ l.length ≤ c ∧ (A = none → c = 0) ∧ (0 < l.length → ∃ b o, A = some ⟨b, o, none⟩ ∧ b < w.heap.size ∧ ∀ i (h : i < l.length) j, j < size → w.cell? ⟨b, o + (i * size + j), none⟩ = (f l[i])[j]?)

section
variable {α : Type} {E : TypeId} {size : Nat} {f : α → List Value} {w w' : World} {v : Value} {l : List α} {base : Nat}
theorem RowOf.nil (w : World) (base : Nat) : RowOf E size f w base (.slice none 0 0) [] := World.ownsRow_nil _ _ _ _
theorem RowOf.form (h : RowOf E size f w base v l) (hl : 0 < l.length) : ∃ g c, v = .slice (some ⟨g, 0, none⟩) l.length c ∧ base ≤ g ∧ g < w.heap.size := World.ownsRow.form h hl
theorem RowOf.alloc (h : RowOf E size f w base v l) (o : Obj) : RowOf E size f (w.alloc o) base v l := World.ownsRow.alloc h o
theorem RowOf.drewN (h : RowOf E size f w base v l) (n : Nat) : RowOf E size f (w.drewN n) base v l := h
theorem RowOf.drew (h : RowOf E size f w base v l) : RowOf E size f w.drew base v l := h
theorem RowOf.later (h : RowOf E size f w base v l) (hb : Below w.heap.size w w') : RowOf E size f w' base v l := by
  refine World.ownsRow.kept h (row := none) ⟨hb.os, hb.tape, hb.output, hb.size, fun k hk _ => hb.block k hk⟩ ?_
  cases hv : v.ownBlock
  · exact .inl rfl
  · exact .inr (by simp)
theorem RowOf.far (h : RowOf E size f w base v l) {p : Addr} (hp : ∀ g, v.ownBlock = some g → g ≠ p.block) (u : Value) : RowOf E size f (w.setCell p u) base v l := by
  refine World.ownsRow.kept h (row := some p.block) ⟨rfl, rfl, rfl, by simp [World.setCell], fun k _ hk => Below.heap_setCell _ _ _ _ (fun e => hk (by rw [e]))⟩ ?_
  cases hv : v.ownBlock with
  | none => exact .inl rfl
  | some g => exact .inr (fun e => hp g hv (by injection e))
theorem RowOf.reads (h : RowOf E size f w base v l) (hf : ∀ x, (f x).length = size) : Reads size f w v l := by
  rcases Nat.eq_zero_or_pos l.length with h0 | h0
  · obtain rfl := List.eq_nil_of_length_eq_zero h0
    rcases h.2 with ⟨rfl, _⟩ | ⟨g, cap, cur, rfl, _, _, hc, _⟩
    · exact ⟨none, 0, rfl, Nat.le_refl _, fun _ => rfl, fun h => absurd h (by simp)⟩
    · exact ⟨_, cap, rfl, hc, (fun h => by cases h), fun h => absurd h (by simp)⟩
  · obtain ⟨g, c, rfl, hb, hg⟩ := h.form h0
    have hc : l.length ≤ c := by
      rcases h.2 with ⟨h', _⟩ | ⟨g', cap', cur, h', _, _, hc, _⟩
      · simp at h'
      · simp at h'; omega
    refine ⟨_, c, rfl, hc, (fun h => by cases h), fun _ => ⟨g, 0, rfl, hg, fun i hi j hj => ?_⟩⟩
    have hlt : i * size + j < l.length * size := by
      have := Nat.mul_le_mul_right size (show i + 1 ≤ l.length from hi)
      rw [Nat.add_mul] at this
      omega
    rw [Nat.zero_add, World.ownsRow.cellAt h _ hlt, flat_get f size hf l i j hi hj]
theorem Reads.below (h : Reads size f w v l) (hb : Below w.heap.size w w') : Reads size f w' v l := by
  obtain ⟨A, c, e, h1, h0, h3⟩ := h
  refine ⟨A, c, e, h1, h0, fun hl => ?_⟩
  obtain ⟨b, o, e2, h4, h5⟩ := h3 hl
  exact ⟨b, o, e2, Nat.lt_of_lt_of_le h4 hb.size, fun i hi j hj => (hb.cell (by exact h4)).trans (h5 i hi j hj)⟩
theorem Reads.nil (w : World) : Reads size f w (.slice none 0 0) [] := ⟨none, 0, rfl, Nat.le_refl _, fun _ => rfl, fun h => absurd h (by simp)⟩
theorem Reads.drewN (h : Reads size f w v l) (n : Nat) : Reads size f (w.drewN n) v l := h
theorem Reads.drew (h : Reads size f w v l) : Reads size f w.drew v l := h
theorem Reads.shape (h : Reads size f w v l) : ∃ A c, v = .slice A l.length c := by
  obtain ⟨A, c, e, _⟩ := h
  exact ⟨A, c, e⟩
end

theorem news_new (w : World) (cs : Array Value) (t : TypeId) : ∀ j u, cs.toList[j]? = some u → (w.alloc (.cells cs t)).cell? ((⟨w.heap.size, 0, none⟩ : Addr).add j) = some u := by
  intro j u hj
  have h := Lib.cell_of_heap (heap_alloc_new w (.cells cs t)) j
  rw [show ((⟨w.heap.size, 0, none⟩ : Addr).add j) = ⟨w.heap.size, j, none⟩ by cases j <;> simp [Addr.add], h, ← Array.getElem?_toList]
  exact hj

section
variable {ops : Array Oper} {rest : List Oper} {o : Oper} {a : Act} {Q : Exit → Act → World → Prop}
/-- append of one element to a row of the call's own. -/
theorem wp_row1 {α : Type} (T E : TypeId) (size bytes : Nat) (f : α → List Value) (z : Value) (hu : Tryz.prog.underlying T = some (.slice E)) (hinfo : (Tryz.prog.info? E).map (fun i => (i.zero, i.size, i.bytes)) = some (some z, size, bytes)) (hzs : z.cells.size = size) (hsz : 0 < size)
    (hf : ∀ x, (f x).length = size ∧ ∀ u ∈ f x, u.oneCell' = true)
    {w : World} (hgd : o.guard = none) (s x : Operand) (ho : o.op = .call { callee := .builtin .append, args := #[s, x], argTypes := #[T, T] })
    (base : Nat) (v : Value) (l : List α) (hs : a.eval s = v) (hown : RowOf E size f w base v l) (d : α) (cs : Array Value) (hcs : cs.toList = f d) (hx : a.eval x = .slice (some ⟨w.heap.size, 0, none⟩) 1 1)
    (hby : (l.length + 1) * bytes ≤ 140737488355328) (h63 : l.length + 1 ≤ maxLen) (hbase : base ≤ w.heap.size)
    (h : ∀ v' w', RowOf E size f w' base v' (l ++ [d]) → Below base w w' → (w.alloc (.cells cs E)).grownBy w' v.ownBlock → wpList Tryz.prog ops Q rest (a.put o.dst v') w') :
    wpList Tryz.prog ops Q (o :: rest) a (w.alloc (.cells cs E)) := by
  obtain ⟨i0, hi, hz0, hz1, hz2⟩ := info_parts hinfo
  have hown' := hown.alloc (.cells cs E)
  refine wpList_append_own_at _ hgd s x T ho base E i0 z size bytes hu hi hz0 hz1 hz2 hzs hsz v l.length (l.flatMap f) hs hown' ⟨w.heap.size, 0, none⟩ 1 1 (f d) hx (by rw [(hf d).1]; omega) (by rw [← hcs]; exact news_new _ _ _) (hf d).2 h63 hby (by simp; omega) ?_
  intro v' w' h1 h2 _ _
  refine h v' w' ?_ ?_ h2
  · unfold RowOf
    rw [List.flatMap_append, List.length_append]
    simpa using h1
  · exact ((Below.refl _ _).alloc hbase _).grown h2 (by simp; omega) (fun k hk => ((World.ownsRow.lt hown) k hk).1)
end
end Go.Proofs.YtmmlcponmdalmaaGreatDoor

namespace Go.Proofs.YtmmlcponmdalmaaGreatDoor
open Go.RowKit

/-- The items of a value lie in memory. -/
def Vl.its (W : World) (v : Vl) : Prop := ∃ us : List Vl, us.length = v.n ∧ (∀ u ∈ us, u.sz) ∧ Reads 9 (fun u : Vl => u.cs.toList) W (.slice v.A v.n v.c) us
theorem Vl.its.below {w W : World} {v : Vl} (h : v.its w) (hb : Below w.heap.size w W) : v.its W := by
  obtain ⟨us, h1, h2, h3⟩ := h
  exact ⟨us, h1, h2, h3.below hb⟩
/-- Some answer. -/
def ARet (w : World) (e : Ending) (w' : World) : Prop := ∃ c : Int, e = .returned (.int .i64 c) ∧ Below w.heap.size w w'

set_option maxRecDepth 100000 in
set_option maxHeartbeats 4000000 in
theorem array_t (v : Vl) (w : World) (he : VEnv w) (hi : v.its w) : Calls Tryz.prog 44 #[v.v] w (ARet w) := by
  obtain ⟨us, hn, hs, hv⟩ := hi
  obtain ⟨k, num, den, text, on, code, rows, cols, A, n, c⟩ := v
  dsimp only at hn hv
  subst hn
  have HL0 := Lib.hid ((Loc.start w).alloc' rfl 27 #[.int .i64 k, .string num, .string den, .string text, .bool on, .int .i64 code, .int .i64 rows, .int .i64 cols, .slice A us.length c])
  have HNA := Lib.hid fun (u : Vl) W (hb : Below w.heap.size w W) (hk : u.k ≠ 5) (hm : u ∈ us) => check_na u W (he.below hb) hk (hs u hm).s1 (hs u hm).s2 (hs u hm).s3
  have HV := Lib.hid hv
  clear he hs hv
  show Calls Tryz.prog 44 #[.agg #[.int .i64 k, .string num, .string den, .string text, .bool on, .int .i64 code, .int .i64 rows, .int .i64 cols, .slice A us.length c]] w _
  by_cases hr : 1 ≤ rows ∧ rows ≤ 100000 ∧ 1 ≤ cols ∧ cols ≤ 100000
  case neg =>
    rcases (show rows < 1 ∨ (1 ≤ rows ∧ 100000 < rows) ∨ ((1 ≤ rows ∧ rows ≤ 100000) ∧ cols < 1) ∨ ((1 ≤ rows ∧ rows ≤ 100000) ∧ 1 ≤ cols ∧ 100000 < cols) by omega) with h1 | ⟨h1, h2⟩ | ⟨⟨h1, h2⟩, h3⟩ | ⟨⟨h1, h2⟩, h3, h4⟩
    all_goals
      clear hr
      go_enter Tryz.func44, Tryz.ntmps44
      go_wp2_with fail
      go_ret
      exact ⟨_, rfl, HL0.out.bel⟩
  obtain ⟨r1, r2, r3, r4⟩ := hr
  have m1 : 0 ≤ rows * cols := Int.mul_nonneg (by omega) (by omega)
  have m2 : rows * cols ≤ 10000000000 := Int.le_trans (Int.mul_le_mul r2 r4 (by omega) (by omega)) (by decide)
  by_cases h2 : rows * cols ≤ 100000
  case neg =>
    go_enter Tryz.func44, Tryz.ntmps44
    go_wp2_with fail
    go_ret
    exact ⟨_, rfl, HL0.out.bel⟩
  by_cases h3 : (us.length : Int) = rows * cols
  case neg =>
    go_enter Tryz.func44, Tryz.ntmps44
    go_wp2_with fail
    go_ret
    exact ⟨_, rfl, HL0.out.bel⟩
  have hnl : us.length ≤ 100000 := by omega
  have hb3 : ((us.length : Int) != rows * cols) = false := by rw [bne_eq_false_iff_eq]; exact h3
  clear h3
  go_enter Tryz.func44, Tryz.ntmps44
  go_wp2_with fail
  go_loopw [42] (fun i wr => ∃ j : Nat, j ≤ us.length ∧ i = .int .i64 j ∧ Below w.heap.size w wr) (fun i _ => us.length - (intOf i).toNat)
  case atStart => exact ⟨0, Nat.zero_le _, rfl, HL0.out.bel⟩
  case round =>
    obtain ⟨i, hi, rfl, hb⟩ := hrel
    clear hb3 m1 m2 r1 r2 r3 r4 h2
    have HB := Lib.hid hb
    clear hb
    by_cases hlt : i < us.length
    · skip
      obtain ⟨u, htk⟩ : ∃ x, x = us[i] := ⟨_, rfl⟩
      obtain ⟨A', c', e', hc', -, hrd⟩ := (HV.out.below HB.out)
      injection e' with e1 _ e3
      subst e1 e3
      obtain ⟨b, p, rfl, hblt, hcell⟩ := hrd (by omega)
      have HM := Lib.hid (show u ∈ us from by rw [htk]; exact List.getElem_mem hlt)
      obtain ⟨uk, unum, uden, utext, uon, ucode, urows, ucols, uA, un, uc⟩ := u
      have g0 : wr.cell? ⟨b, p + i * 9, none⟩ = some (.int .i64 uk) := by have := hcell i hlt 0 (by decide); rw [← htk] at this; exact this
      have g1 : wr.cell? ⟨b, p + i * 9 + 1, none⟩ = some (.string unum) := by have := hcell i hlt 1 (by decide); rw [← htk] at this; exact this
      have g2 : wr.cell? ⟨b, p + i * 9 + 2, none⟩ = some (.string uden) := by have := hcell i hlt 2 (by decide); rw [← htk] at this; exact this
      have g3 : wr.cell? ⟨b, p + i * 9 + 3, none⟩ = some (.string utext) := by have := hcell i hlt 3 (by decide); rw [← htk] at this; exact this
      have g4 : wr.cell? ⟨b, p + i * 9 + 4, none⟩ = some (.bool uon) := by have := hcell i hlt 4 (by decide); rw [← htk] at this; exact this
      have g5 : wr.cell? ⟨b, p + i * 9 + 5, none⟩ = some (.int .i64 ucode) := by have := hcell i hlt 5 (by decide); rw [← htk] at this; exact this
      have g6 : wr.cell? ⟨b, p + i * 9 + 6, none⟩ = some (.int .i64 urows) := by have := hcell i hlt 6 (by decide); rw [← htk] at this; exact this
      have g7 : wr.cell? ⟨b, p + i * 9 + 7, none⟩ = some (.int .i64 ucols) := by have := hcell i hlt 7 (by decide); rw [← htk] at this; exact this
      have g8 : wr.cell? ⟨b, p + i * 9 + 8, none⟩ = some (.slice uA un uc) := by have := hcell i hlt 8 (by decide); rw [← htk] at this; exact this
      clear hcell htk
      by_cases hk5 : uk = 5
      · subst hk5
        go_wp2_with fail
        go_ret
        exact ⟨_, rfl, HB.out.alloc HB.out.size _⟩
      · have HC := Lib.hid (show ∀ W, Below w.heap.size w W → Calls Tryz.prog 15 #[.agg #[.int .i64 uk, .string unum, .string uden, .string utext, .bool uon, .int .i64 ucode, .int .i64 urows, .int .i64 ucols, .slice uA un uc]] W (ARet W) from fun W hW => (HNA.out ⟨uk, unum, uden, utext, uon, ucode, urows, ucols, uA, un, uc⟩ W hW hk5 HM.out).mono fun e w' ⟨cc, h1, _, h2⟩ => ⟨cc, h1, h2⟩)
        have HBA := Lib.hid (HB.out.alloc HB.out.size (.cells #[.int .i64 uk, .string unum, .string uden, .string utext, .bool uon, .int .i64 ucode, .int .i64 urows, .int .i64 ucols, .slice uA un uc] 27))
        clear HV HM HNA HB
        go_wp2_with (go_at_call 15; (with_reducible refine (HC.out _ HBA.out).mono ?_); rintro e w1 ⟨cc, rfl, hb⟩; have HB1 := Lib.hid (below_tr HBA.out hb); clear hb)
        all_goals first
          | (go_ret; exact ⟨_, rfl, HB1.out⟩)
          | exact ⟨⟨i + 1, by omega, by go_num, HB1.out⟩, by simp [intOf]; omega⟩
    · go_wp2_with fail
      go_ret
      exact ⟨_, rfl, HB.out⟩
/-- Check answers, whatever the value. -/
theorem check_arr (v : Vl) (w : World) (he : VEnv w) (hi : v.its w) (h5 : v.k = 5) (sz : v.sz) : Calls Tryz.prog 15 #[v.v] w (ARet w) := by
  have HA := Lib.hid fun W (hb : Below w.heap.size w W) => array_t v W (he.below hb) (hi.below hb)
  obtain ⟨k, num, den, text, on, code, rows, cols, A, n, c⟩ := v
  dsimp only at h5
  subst h5
  have HA := Lib.hid (show ∀ W, Below w.heap.size w W → Calls Tryz.prog 44 #[.agg #[.int .i64 5, .string num, .string den, .string text, .bool on, .int .i64 code, .int .i64 rows, .int .i64 cols, .slice A n c]] W (ARet W) from HA.out)
  have HL0 := Lib.hid ((Loc.start w).alloc' rfl 27 #[.int .i64 5, .string num, .string den, .string text, .bool on, .int .i64 code, .int .i64 rows, .int .i64 cols, .slice A n c])
  show Calls Tryz.prog 15 #[.agg #[.int .i64 5, .string num, .string den, .string text, .bool on, .int .i64 code, .int .i64 rows, .int .i64 cols, .slice A n c]] w (ARet w)
  cases hz : Vl.zB ⟨5, num, den, text, on, code, rows, cols, A, n, c⟩ with
  | false =>
    have HZ := Lib.hid (show ∀ W, Calls Tryz.prog 40 #[.agg #[.int .i64 5, .string num, .string den, .string text, .bool on, .int .i64 code, .int .i64 rows, .int .i64 cols, .slice A n c]] W fun e w' => e = .returned (.int .i64 4) ∧ Below W.heap.size W w' from fun W => by
      have := zeros_any ⟨5, num, den, text, on, code, rows, cols, A, n, c⟩ W (show (0 : Int) ≤ 5 by decide) (show (5 : Int) ≤ 5 by decide)
      rw [hz] at this
      exact this)
    clear hz he hi sz
    go_enter Tryz.func15, Tryz.ntmps15
    go_wp2_with (go_at_call 40; (with_reducible refine (HZ.out _).mono ?_); rintro e w1 ⟨rfl, hb⟩; have HL1 := Lib.hid (HL0.out.step hb); clear hb)
    go_ret
    exact ⟨4, rfl, HL1.out.bel⟩
  | true =>
    have HZ := Lib.hid (show ∀ W, Calls Tryz.prog 40 #[.agg #[.int .i64 5, .string num, .string den, .string text, .bool on, .int .i64 code, .int .i64 rows, .int .i64 cols, .slice A n c]] W fun e w' => e = .returned (.int .i64 0) ∧ Below W.heap.size W w' from fun W => by
      have := zeros_any ⟨5, num, den, text, on, code, rows, cols, A, n, c⟩ W (show (0 : Int) ≤ 5 by decide) (show (5 : Int) ≤ 5 by decide)
      rw [hz] at this
      exact this)
    clear hz he hi sz
    go_enter Tryz.func15, Tryz.ntmps15
    go_wp2_with (first
      | (go_at_call 40; (with_reducible refine (HZ.out _).mono ?_); rintro e w1 ⟨rfl, hb⟩; have HL1 := Lib.hid (HL0.out.step hb); have hk0 := ((HL1.out.blk (g := w.heap.size) (t := 27) (cs := #[.int .i64 5, .string num, .string den, .string text, .bool on, .int .i64 code, .int .i64 rows, .int .i64 cols, .slice A n c]) (by simp)).cell 0); have hk1 := ((HL1.out.blk (g := w.heap.size) (t := 27) (cs := #[.int .i64 5, .string num, .string den, .string text, .bool on, .int .i64 code, .int .i64 rows, .int .i64 cols, .slice A n c]) (by simp)).cell 1); have hk2 := ((HL1.out.blk (g := w.heap.size) (t := 27) (cs := #[.int .i64 5, .string num, .string den, .string text, .bool on, .int .i64 code, .int .i64 rows, .int .i64 cols, .slice A n c]) (by simp)).cell 2); have hk3 := ((HL1.out.blk (g := w.heap.size) (t := 27) (cs := #[.int .i64 5, .string num, .string den, .string text, .bool on, .int .i64 code, .int .i64 rows, .int .i64 cols, .slice A n c]) (by simp)).cell 3); have hk4 := ((HL1.out.blk (g := w.heap.size) (t := 27) (cs := #[.int .i64 5, .string num, .string den, .string text, .bool on, .int .i64 code, .int .i64 rows, .int .i64 cols, .slice A n c]) (by simp)).cell 4); have hk5 := ((HL1.out.blk (g := w.heap.size) (t := 27) (cs := #[.int .i64 5, .string num, .string den, .string text, .bool on, .int .i64 code, .int .i64 rows, .int .i64 cols, .slice A n c]) (by simp)).cell 5); have hk6 := ((HL1.out.blk (g := w.heap.size) (t := 27) (cs := #[.int .i64 5, .string num, .string den, .string text, .bool on, .int .i64 code, .int .i64 rows, .int .i64 cols, .slice A n c]) (by simp)).cell 6); have hk7 := ((HL1.out.blk (g := w.heap.size) (t := 27) (cs := #[.int .i64 5, .string num, .string den, .string text, .bool on, .int .i64 code, .int .i64 rows, .int .i64 cols, .slice A n c]) (by simp)).cell 7); have hk8 := ((HL1.out.blk (g := w.heap.size) (t := 27) (cs := #[.int .i64 5, .string num, .string den, .string text, .bool on, .int .i64 code, .int .i64 rows, .int .i64 cols, .slice A n c]) (by simp)).cell 8); clear hb)
      | (go_at_call 44; (with_reducible refine (HA.out _ HL1.out.bel).mono ?_); rintro e w2 ⟨r, rfl, hb⟩; have HL2 := Lib.hid (HL1.out.step hb); clear hb))
    go_ret
    exact ⟨r, rfl, HL2.out.bel⟩
theorem check_all (v : Vl) (w : World) (he : VEnv w) (hi : v.its w) (sz : v.sz) : Calls Tryz.prog 15 #[v.v] w fun e w' => ∃ c : Int, e = .returned (.int .i64 c) ∧ (v.k ≠ 5 → c = 0 → v.ok) ∧ Below w.heap.size w w' := by
  by_cases h : v.k = 5
  · exact (check_arr v w he hi h sz).mono fun e w' ⟨c, h1, h2⟩ => ⟨c, h1, fun h' => absurd h h', h2⟩
  · exact (check_na v w he h sz.s1 sz.s2 sz.s3).mono fun e w' ⟨c, h1, h2, h3⟩ => ⟨c, h1, fun _ => h2.1, h3⟩
end Go.Proofs.YtmmlcponmdalmaaGreatDoor

namespace Go.Proofs.YtmmlcponmdalmaaGreatDoor
open Go Go.Joins Go.ChangeShapes Go.WideShapes Go.RowKit Go.Deep

section
variable {H : Type} {enc : TypeId × Value → H} {W : World} {base : Nat} {spare : Nat → Bool} {held : Bool}
/-- A struct's fields, each by its number of cells. -/
theorem field_at {P : Program} {t : TypeId} {fuel : Nat} {cs : List Value} {x : DataW H × List MemPlace} {L : List (TypeId × Nat × Nat)} (hs : P.underlying t = some (.struct (P.fieldsOf t))) (hL : (P.fieldsOf t).toList.map (fun f => (f.type, f.offset, P.cellsOf f.type)) = L)
    (h : DataW.trod enc P W base spare held fuel t cs = some x) : ∃ n, cs.length = P.cellsOf t ∧ ∀ (i : Nat) (q : TypeId × Nat × Nat), L[i]? = some q → ∃ y, DataW.trod enc P W base spare held n q.1 ((cs.drop q.2.1).take q.2.2) = some y := by
  obtain ⟨xs, n, _, _, hl, hlen, hg⟩ := DataW.trod_struct hs h
  refine ⟨n, hl, fun i q hq => ?_⟩
  rw [← hL, List.getElem?_map] at hq
  obtain ⟨f, hf, rfl⟩ := Option.map_eq_some_iff.1 hq
  have hf' : (P.fieldsOf t)[i]? = some f := by rw [← Array.getElem?_toList]; exact hf
  have hi : i < xs.length := by rw [hlen]; exact (Array.getElem?_eq_some_iff.1 hf').1
  exact ⟨xs[i], (hg i f hf').trans (List.getElem?_eq_getElem hi)⟩
theorem val_fields : Tryz.prog.underlying 27 = some (.struct (Tryz.prog.fieldsOf 27)) := by kernel_rfl
theorem val_places : (Tryz.prog.fieldsOf 27).toList.map (fun f => (f.type, f.offset, Tryz.prog.cellsOf f.type)) = [(3, 0, 1), (24, 1, 2), (9, 3, 1), (4, 4, 1), (3, 5, 1), (3, 6, 1), (3, 7, 1), (25, 8, 1)] := by kernel_rfl
theorem val_cells : Tryz.prog.cellsOf 27 = 9 := by kernel_rfl
theorem frac_fields : Tryz.prog.underlying 24 = some (.struct (Tryz.prog.fieldsOf 24)) := by kernel_rfl
theorem frac_places : (Tryz.prog.fieldsOf 24).toList.map (fun f => (f.type, f.offset, Tryz.prog.cellsOf f.type)) = [(9, 0, 1), (9, 1, 1)] := by kernel_rfl
set_option maxRecDepth 100000 in
theorem open_val {fuel : Nat} {cs : List Value} {x : DataW H × List MemPlace} (h : DataW.trod enc Tryz.prog W base spare held fuel 27 cs = some x) :
    ∃ (u : Vl) (n : Nat) (y : DataW H × List MemPlace), cs = u.cs.toList ∧ u.sz ∧ DataW.trod enc Tryz.prog W base spare held n 25 [.slice u.A u.n u.c] = some y := by
  obtain ⟨n, hl, hf⟩ := field_at val_fields val_places h
  rw [val_cells] at hl
  match cs, hl with
  | [c0, c1, c2, c3, c4, c5, c6, c7, c8], _ =>
    obtain ⟨y0, h0⟩ := hf 0 _ rfl
    obtain ⟨y1, h1⟩ := hf 1 _ rfl
    obtain ⟨y2, h2⟩ := hf 2 _ rfl
    obtain ⟨y3, h3⟩ := hf 3 _ rfl
    obtain ⟨y4, h4⟩ := hf 4 _ rfl
    obtain ⟨y5, h5⟩ := hf 5 _ rfl
    obtain ⟨y6, h6⟩ := hf 6 _ rfl
    obtain ⟨y7, h7⟩ := hf 7 _ rfl
    obtain ⟨n', _, hf'⟩ := field_at frac_fields frac_places h1
    obtain ⟨z0, g0⟩ := hf' 0 _ rfl
    obtain ⟨z1, g1⟩ := hf' 1 _ rfl
    obtain ⟨k, e0, -, -⟩ := DataW.trod_int Tryz.underlying3 h0
    obtain ⟨num, e1, -, s1⟩ := DataW.trod_string Tryz.underlying9 g0
    obtain ⟨den, e2, -, s2⟩ := DataW.trod_string Tryz.underlying9 g1
    obtain ⟨text, e3, -, s3⟩ := DataW.trod_string Tryz.underlying9 h2
    obtain ⟨on, e4, -⟩ := DataW.trod_bool Tryz.underlying4 h3
    obtain ⟨code, e5, -, -⟩ := DataW.trod_int Tryz.underlying3 h4
    obtain ⟨rows, e6, -, -⟩ := DataW.trod_int Tryz.underlying3 h5
    obtain ⟨cols, e7, -, -⟩ := DataW.trod_int Tryz.underlying3 h6
    simp only [List.drop_zero, List.drop_succ_cons, List.take_succ_cons, List.take_zero, List.cons.injEq, and_true] at e0 e1 e2 e3 e4 e5 e6 e7 h7
    obtain rfl := e0
    obtain rfl := e1
    obtain rfl := e2
    obtain rfl := e3
    obtain rfl := e4
    obtain rfl := e5
    obtain rfl := e6
    obtain rfl := e7
    unfold maxLen at s1 s2 s3
    rcases open_slice Tryz.underlying25 h7 with ⟨hc, -⟩ | ⟨a, len, cap, m, q, D, Pl, hc, -⟩
    · simp only [List.cons.injEq, and_true] at hc
      obtain rfl := hc
      exact ⟨⟨k, num, den, text, on, code, rows, cols, none, 0, 0⟩, n, y7, rfl, ⟨s1, s2, s3⟩, h7⟩
    · simp only [List.cons.injEq, and_true] at hc
      obtain rfl := hc
      exact ⟨⟨k, num, den, text, on, code, rows, cols, some a, len, cap⟩, n, y7, rfl, ⟨s1, s2, s3⟩, h7⟩
set_option maxRecDepth 100000 in
theorem open_items {u : Vl} {fuel : Nat} {x : DataW H × List MemPlace} (h : DataW.trod enc Tryz.prog W base spare held fuel 25 [.slice u.A u.n u.c] = some x) : u.its W := by
  rcases open_slice Tryz.underlying25 h with ⟨hc, -⟩ | ⟨a, len, cap, m, n, D, Pl, hc, -, hlc, -, hm, -, hx⟩
  · simp only [List.cons.injEq, and_true, Value.slice.injEq] at hc
    obtain ⟨h1, h2, h3⟩ := hc
    refine ⟨[], h2.symm, (by simp), ?_⟩
    rw [h1, h2, h3]
    exact Reads.nil _
  · simp only [List.cons.injEq, and_true, Value.slice.injEq] at hc
    obtain ⟨h1, h2, h3⟩ := hc
    have hlm : len ≤ m := by rw [hm]; split <;> omega
    have each : ∀ i, i < len → ∃ v : Vl, v.sz ∧ ∀ j, j < 9 → W.cell? ((a.add (i * 9)).add j) = v.cs.toList[j]? := fun i hi => by
      obtain ⟨cs', hcs, ht⟩ := hx i (by omega)
      rw [val_cells] at hcs
      obtain ⟨-, -, hat⟩ := World.cells?_some hcs
      obtain ⟨v, -, -, e, hz, -⟩ := open_val ht
      exact ⟨v, hz, fun j hj => by rw [hat j hj, e]⟩
    haveI : Inhabited Vl := ⟨u⟩
    obtain ⟨q, hq⟩ := choose_lt each
    refine ⟨(List.range len).map q, by rw [List.length_map, List.length_range, h2], fun v hv => ?_, ⟨u.A, u.c, ?_, ?_, ?_, fun h0 => ?_⟩⟩
    · obtain ⟨i, hi, rfl⟩ := List.mem_map.1 hv
      exact (hq i (List.mem_range.1 hi)).1
    · rw [List.length_map, List.length_range, h2]
    · rw [List.length_map, List.length_range, h3]; exact hlc
    · rw [h1]; exact fun h => by cases h
    · have h0' : 0 < len := by simpa using h0
      obtain ⟨b, o, sp⟩ := a
      have g0 := (hq 0 h0').2 0 (by decide)
      have g0' := g0.trans (show (q 0).cs.toList[0]? = some (.int .i64 (q 0).k) from rfl)
      obtain rfl : sp = none := by simpa [Addr.add] using World.cell?_spot g0'
      refine ⟨b, o, h1, World.block_lt_of_cell? _ _ g0', fun i hi j hj => ?_⟩
      have hi' : i < len := by simpa using hi
      have := (hq i hi').2 j hj
      simp only [List.getElem_map, List.getElem_range]
      rw [← this, Addr.add_lit, Addr.add_lit, Nat.add_assoc]
set_option maxRecDepth 100000 in
theorem open_value {r : Reach} {b0 : Nat} {v : Value} {d : DataW H} {p : List MemPlace} (hv : Value.okWide Tryz.prog W r b0 27 v) (h : DataW.Trod enc Tryz.prog W base spare held 27 v d p) :
    ∃ u : Vl, v = u.v ∧ u.sz ∧ u.its W := by
  obtain ⟨cs, rfl, -⟩ := okWide_struct val_fields hv
  obtain ⟨fuel, hf⟩ := h
  obtain ⟨u, n, y, e, hz, hi⟩ := open_val hf
  refine ⟨u, ?_, hz, open_items hi⟩
  unfold Vl.v
  congr 1
  apply Array.ext'
  exact e
end
end Go.Proofs.YtmmlcponmdalmaaGreatDoor
