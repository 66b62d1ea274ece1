/- flook.entry: an entry of the table. -/
import Derived.Test.YtllhefjblipddaaGreatDoorFkM
import Derived.Test.YtllhefjblipddaaGreatDoorVbA
import Derived.Laws.EntriesVeiled
set_option linter.unusedSimpArgs false
set_option linter.unusedVariables false
namespace Go.Proofs.YtllhefjblipddaaGreatDoor
open Go.RowKit

/-- An entry of the table, as a value. -/
abbrev entV (l m : Int) (k : ByteArray) (p : Nat) : Value := .agg #[.int .i64 l, .int .i64 m, .string k, .func (.func 75) #[] #[.pointer (some ⟨p, 0, none⟩)]]
theorem entry_any (l m : Int) (k : ByteArray) (f : Nat) (w : World) : Calls Tryz.prog 28 #[.int .i64 l, .int .i64 m, .string k, .func (.func f) #[] #[]] w fun e w' => e = .returned (entV l m k w.heap.size) ∧ Blk w' w.heap.size 65 #[.func (.func f) #[] #[]] ∧ Below w.heap.size w w' := by
  have hmf : ∀ (fn : Fn) (first cap : Array Value) (w : World), (Instr.makeFunc fn first cap).run Tryz.prog w = .ok (.func fn first cap) w := fun _ _ _ _ => rfl
  have HL := Lib.hid (((Loc.start w).alloc' rfl 65 #[.func (.func f) #[] #[]]).alloc' (g := w.heap.size + 1) (by simp) 60 #[.int .i64 l, .int .i64 m, .string k, .func (.func 75) #[] #[.pointer (some ⟨w.heap.size, 0, none⟩)]])
  go_enter Tryz.func28, Tryz.ntmps28
  go_wp2_with fail
  have hb := HL.out.blk (g := w.heap.size + 1) (List.mem_cons_self ..)
  have q0 := hb.cell 0
  have q1 := hb.cell 1
  have q2 := hb.cell 2
  have q3 := hb.cell 3
  simp only [List.getElem?_toArray, List.getElem?_cons_succ, List.getElem?_cons_zero] at q0 q1 q2 q3
  refine bodyPost_ret (v := entV l m k w.heap.size) (by simp [results, Tryz.results28, go_sem, q0, q1, q2, q3]) rfl ⟨rfl, HL.out.blk (g := w.heap.size) (List.mem_cons_of_mem _ (List.mem_cons_self ..)), HL.out.bel⟩
end Go.Proofs.YtllhefjblipddaaGreatDoor

namespace Go.Proofs.YtllhefjblipddaaGreatDoor
open Go.RowKit Go.MapKept

abbrev EY := ByteArray × Int × Int × ByteArray × Nat
/-- An entry of the map is what the list says. -/
def EntOk (W : World) (b : Nat) (x : ByteArray × Value) (y : EY) : Prop := x.1 = y.1 ∧ ∃ p, p ≠ b ∧ x.2 = entV y.2.1 y.2.2.1 y.2.2.2.1 p ∧ Blk W p 65 #[.func (.func y.2.2.2.2) #[] #[]]
def Ents (W : World) (b : Nat) : List (ByteArray × Value) → List EY → Prop
  | [], [] => True
  | x :: xs, y :: ys => EntOk W b x y ∧ Ents W b xs ys
  | _, _ => False
theorem Ents.imp {W W' : World} {b : Nat} (h : ∀ p t cs, p ≠ b → Blk W p t cs → Blk W' p t cs) : ∀ xs ys, Ents W b xs ys → Ents W' b xs ys
  | [], [], _ => trivial
  | x :: xs, y :: ys, ⟨⟨h1, p, h2, h3, h4⟩, h5⟩ => ⟨⟨h1, p, h2, h3, h p _ _ h2 h4⟩, Ents.imp h xs ys h5⟩
  | [], _ :: _, h => h.elim
  | _ :: _, [], h => h.elim
theorem Ents.snoc {W : World} {b : Nat} {x : ByteArray × Value} {y : EY} (hy : EntOk W b x y) : ∀ xs ys, Ents W b xs ys → Ents W b (xs ++ [x]) (ys ++ [y])
  | [], [], _ => ⟨hy, trivial⟩
  | x' :: xs, y' :: ys, ⟨h1, h2⟩ => ⟨h1, Ents.snoc hy xs ys h2⟩
  | [], _ :: _, h => h.elim
  | _ :: _, [], h => h.elim
def sameT (a b : ByteArray) : Bool := a.data.toList == b.data.toList
theorem sameT_iff (a b : ByteArray) : sameT a b = true ↔ a = b := by
  unfold sameT
  rw [beq_iff_eq]
  constructor
  · intro h
    obtain ⟨⟨a⟩⟩ := a
    obtain ⟨⟨b⟩⟩ := b
    have h : a = b := h
    rw [h]
  · intro h
    rw [h]
theorem ents_none {W : World} {b : Nat} (k : ByteArray) : ∀ xs ys, Ents W b xs ys → (ys.all fun y => !sameT y.1 k) = true → findS k xs = none
  | [], _, _, _ => rfl
  | x :: xs, y :: ys, ⟨⟨h1, _⟩, h2⟩, hf => by
    rw [List.all_cons, Bool.and_eq_true] at hf
    have hne : ¬ x.1 = k := fun e => by
      have := hf.1
      rw [← h1, (sameT_iff _ _).2 e] at this
      cases this
    unfold findS
    rw [if_neg hne]
    exact ents_none k xs ys h2 hf.2
  | _ :: _, [], h, _ => h.elim
theorem ents_some {W : World} {b : Nat} (k : ByteArray) (y0 : EY) : ∀ xs ys, Ents W b xs ys → (ys.find? fun y => sameT y.1 k) = some y0 → ∃ p, findS k xs = some (entV y0.2.1 y0.2.2.1 y0.2.2.2.1 p) ∧ Blk W p 65 #[.func (.func y0.2.2.2.2) #[] #[]]
  | [], [], _, hf => by cases hf
  | x :: xs, y :: ys, ⟨⟨h1, p, _, h3, h4⟩, h2⟩, hf => by
    rw [List.find?_cons] at hf
    unfold findS
    split at hf
    · rename_i hs
      cases hf
      refine ⟨p, ?_, h4⟩
      rw [if_pos (h1.trans ((sameT_iff _ _).1 hs)), h3]
    · rename_i hs
      have hne : ¬ x.1 = k := fun e => by
        rw [← h1, (sameT_iff _ _).2 e] at hs
        cases hs
      rw [if_neg hne]
      exact ents_some k y0 xs ys h2 hf
  | [], _ :: _, h, _ => h.elim
  | _ :: _, [], h, _ => h.elim
/-- The map, so far. -/
structure TS (w W : World) (b : Nat) (L : List EY) : Prop where
  ex : ∃ LV, MapAt W b LV ∧ Ents W b LV L
  bel : Below w.heap.size w W
  base : w.heap.size ≤ b
section
variable {w W W' : World} {b : Nat} {L : List EY}
theorem TS.new (w : World) : TS w (w.alloc (.map #[] 0)) w.heap.size [] := ⟨⟨[], MapAt.new w, trivial⟩, (Below.refl _ _).alloc (Nat.le_refl _) _, Nat.le_refl _⟩
theorem TS.step (h : TS w W b L) (hb : Below W.heap.size W W') : TS w W' b L := by
  obtain ⟨LV, h1, h2⟩ := h.ex
  exact ⟨⟨LV, h1.later hb, h2.imp fun p t cs _ h => h.later hb⟩, h.bel.trans (hb.mono h.bel.size), h.base⟩
theorem TS.look (h : TS w W b L) (k : ByteArray) (y : EY) (hf : (L.find? fun y => sameT y.1 k) = some y) : ∃ p, (Instr.lookup 43 (.map (some b)) (.string k) true).run Tryz.prog W = .ok (.tuple #[entV y.2.1 y.2.2.1 y.2.2.2.1 p, .bool true]) W ∧ Blk W p 65 #[.func (.func y.2.2.2.2) #[] #[]] := by
  obtain ⟨LV, h1, h2⟩ := h.ex
  obtain ⟨p, h3, h4⟩ := ents_some k y LV L h2 hf
  exact ⟨p, h1.look Tryz.underlying43 Tryz.underlying9 k _ h3, h4⟩
/-- A new entry is put. -/
theorem wp_ent {ops : Array Oper} {rest : List Oper} {o : Oper} {a : Act} {Q : Exit → Act → World → Prop} (hg : o.guard = none) (m x v : Operand) (hop : o.op = Op.insert 43 m x v) (hb : a.eval m = .map (some b)) (k : ByteArray) (hx : a.eval x = .string k) (lo hi : Int) (ks : ByteArray) (f p : Nat) (hv : a.eval v = entV lo hi ks p) (h : TS w W b L) (hp : Blk W p 65 #[.func (.func f) #[] #[]]) (hpb : p ≠ b) (hf : (L.all fun y => !sameT y.1 k) = true)
    (hK : ∀ W', TS w W' b (L ++ [(k, lo, hi, ks, f)]) → wpList Tryz.prog ops Q rest (a.put o.dst undef) W') : wpList Tryz.prog ops Q (o :: rest) a W := by
  obtain ⟨LV, h1, h2⟩ := h.ex
  refine wp_put hg m x v hop Tryz.underlying43 Tryz.underlying9 b LV hb k hx h1 (ents_none k LV L h2 hf) fun W' g1 g2 => hK W' ?_
  rw [hv] at g1
  have hi' : ∀ p t cs, p ≠ b → Blk W p t cs → Blk W' p t cs := fun p t cs hne hB => g2.blk hB hB.lt (by simpa using hne)
  refine ⟨⟨_, g1, (h2.imp hi').snoc ⟨rfl, p, hpb, rfl, hi' p _ _ hpb hp⟩⟩, ?_, h.base⟩
  exact h.bel.trans (g2.below h.bel.size fun x hx => by
    rw [List.mem_singleton.1 hx]
    exact h.base)
end
/-- All functions of the table. -/
def tabL : List EY := [(⟨#[77, 65, 84, 67, 72]⟩, 2, 3, ⟨#[115, 97, 115]⟩, 29), (⟨#[88, 77, 65, 84, 67, 72]⟩, 2, 3, ⟨#[115, 97, 115]⟩, 30), (⟨#[76, 79, 79, 75, 85, 80]⟩, 2, 3, ⟨#[115, 97]⟩, 31), (⟨#[86, 76, 79, 79, 75, 85, 80]⟩, 3, 4, ⟨#[115, 97, 115, 115]⟩, 32), (⟨#[72, 76, 79, 79, 75, 85, 80]⟩, 3, 4, ⟨#[115, 97, 115, 115]⟩, 34), (⟨#[88, 76, 79, 79, 75, 85, 80]⟩, 3, 5, ⟨#[115, 97, 97, 97, 115]⟩, 35), (⟨#[73, 78, 68, 69, 88]⟩, 2, 3, ⟨#[97, 115, 115]⟩, 36), (⟨#[82, 79, 87, 83]⟩, 1, 1, ⟨#[97]⟩, 37), (⟨#[67, 79, 76, 85, 77, 78, 83]⟩, 1, 1, ⟨#[97]⟩, 40), (⟨#[84, 82, 65, 78, 83, 80, 79, 83, 69]⟩, 1, 1, ⟨#[97]⟩, 41), (⟨#[84, 65, 75, 69]⟩, 2, 3, ⟨#[97, 115, 115]⟩, 44), (⟨#[68, 82, 79, 80]⟩, 2, 3, ⟨#[97, 115, 115]⟩, 46), (⟨#[67, 72, 79, 79, 83, 69, 82, 79, 87, 83]⟩, 2, 255, ⟨#[97, 115]⟩, 47), (⟨#[67, 72, 79, 79, 83, 69, 67, 79, 76, 83]⟩, 2, 255, ⟨#[97, 115]⟩, 49), (⟨#[72, 83, 84, 65, 67, 75]⟩, 1, 255, ⟨#[97]⟩, 50), (⟨#[86, 83, 84, 65, 67, 75]⟩, 1, 255, ⟨#[97]⟩, 52), (⟨#[84, 79, 82, 79, 87]⟩, 1, 1, ⟨#[97]⟩, 53), (⟨#[84, 79, 67, 79, 76]⟩, 1, 1, ⟨#[97]⟩, 54), (⟨#[87, 82, 65, 80, 82, 79, 87, 83]⟩, 2, 3, ⟨#[97, 115, 115]⟩, 55), (⟨#[87, 82, 65, 80, 67, 79, 76, 83]⟩, 2, 3, ⟨#[97, 115, 115]⟩, 57), (⟨#[69, 88, 80, 65, 78, 68]⟩, 2, 4, ⟨#[97, 115, 115, 115]⟩, 58), (⟨#[70, 73, 76, 84, 69, 82]⟩, 2, 3, ⟨#[97, 97, 97]⟩, 59), (⟨#[83, 79, 82, 84]⟩, 1, 4, ⟨#[97, 115, 115, 115]⟩, 60), (⟨#[83, 79, 82, 84, 66, 89]⟩, 2, 255, ⟨#[97]⟩, 61), (⟨#[85, 78, 73, 81, 85, 69]⟩, 1, 3, ⟨#[97, 115, 115]⟩, 62)]
theorem TS.lt {w W : World} {b : Nat} {L : List EY} (h : TS w W b L) : b < W.heap.size := by
  obtain ⟨LV, h1, -⟩ := h.ex
  exact h1.lt
theorem entry_p (l m : Int) (k : ByteArray) (f : Nat) (w : World) : Calls Tryz.prog 28 #[.int .i64 l, .int .i64 m, .string k, .func (.func f) #[] #[]] w fun e w' => ∃ p, w.heap.size ≤ p ∧ e = .returned (entV l m k p) ∧ Blk w' p 65 #[.func (.func f) #[] #[]] ∧ Below w.heap.size w w' :=
  (entry_any l m k f w).mono fun e w' h => ⟨_, Nat.le_refl _, h.1, h.2.1, h.2.2⟩
set_option maxRecDepth 100000 in
set_option maxHeartbeats 16000000 in
theorem table_any (w : World) : Calls Tryz.prog 17 #[] w fun e w' => ∃ b, e = .returned (.map (some b)) ∧ TS w w' b tabL := by
  have hmm : (Instr.makeMap 43 none).run Tryz.prog w = .ok (.map (some w.heap.size)) (w.alloc (.map #[] 0)) := by simp [Instr.makeMap, Result.andThen]
  have HT := Lib.hid (TS.new w)
  generalize hb0 : w.heap.size = b at hmm HT
  have HB := Lib.hid hb0
  clear hb0
  go_enter Tryz.func17, Tryz.ntmps17
  go_wp2_with (first
    | (go_at_call 28; (with_reducible refine (entry_p _ _ _ _ _).mono ?_); rintro e wx ⟨p, hpl, rfl, hp, hbl⟩; have hpb : p ≠ b := (by have := HT.out.lt; omega); have HT2 := Lib.hid (HT.out.step hbl); clear HT hbl hpl; have HT := HT2; clear HT2)
    | (refine wp_ent rfl _ _ _ rfl rfl _ rfl _ _ _ _ _ rfl HT.out hp hpb (by decide +kernel) ?_; intro Wn ht; have HT2 := Lib.hid ht; clear ht hp hpb HT; have HT := HT2; clear HT2))
  go_ret
  exact ⟨_, rfl, HT.out⟩
end Go.Proofs.YtllhefjblipddaaGreatDoor
