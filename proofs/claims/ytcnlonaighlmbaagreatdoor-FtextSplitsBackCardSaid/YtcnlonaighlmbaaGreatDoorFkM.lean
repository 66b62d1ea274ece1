/- A map with texts as keys that a call makes: what it holds, as a list; a key is put, a key is found. -/
import Derived.Test.YtcnlonaighlmbaaGreatDoorLoc
import Derived.Test.YtcnlonaighlmbaaGreatDoorHaa
import Derived.Maps.Own
import Derived.OwnWalk
set_option linter.unusedSimpArgs false
set_option linter.unusedVariables false
namespace Go.Proofs.YtcnlonaighlmbaaGreatDoor
open Go.RowKit Go.MapKept

/-- The block is a map that holds these values at these texts, in this order. -/
def MapAt (W : World) (b : Nat) (L : List (ByteArray × Value)) : Prop :=
  ∃ es clock, W.heap[b]? = some (.map es clock) ∧ es.toList.map (fun e : MapEntry => (e.key, e.val)) = L.map fun x => (Value.string x.1, x.2)
/-- What the list has for a text. -/
def findS (k : ByteArray) : List (ByteArray × Value) → Option Value
  | [] => none
  | x :: r => if x.1 = k then some x.2 else findS k r
section
variable {W W' : World} {b : Nat} {L : List (ByteArray × Value)} {P : Program} {t kt et : TypeId}
theorem MapAt.new (W : World) : MapAt (W.alloc (.map #[] 0)) W.heap.size [] := ⟨#[], 0, (MapKept.heap_alloc W _).1, rfl⟩
theorem MapAt.lt (h : MapAt W b L) : b < W.heap.size := by
  obtain ⟨es, clock, hb, -⟩ := h
  exact (Array.getElem?_eq_some_iff.1 hb).1
theorem MapAt.of_block (h : MapAt W b L) (e : W'.heap[b]? = W.heap[b]?) : MapAt W' b L := by
  obtain ⟨es, clock, hb, hl⟩ := h
  exact ⟨es, clock, e.trans hb, hl⟩
theorem MapAt.later (h : MapAt W b L) (hb : Below W.heap.size W W') : MapAt W' b L := h.of_block (hb.block b h.lt)
theorem MapAt.drew (h : MapAt W b L) : MapAt W.drew b L := h
theorem MapAt.chg {B : Nat} {G : List Nat} (h : MapAt W b L) (hc : Chg B G W W') (hB : b < B) (hG : b ∉ G) : MapAt W' b L := h.of_block (hc.block b hB hG)
theorem find_none : ∀ (es : List MapEntry) (L : List (ByteArray × Value)) (k : ByteArray) (i : Nat), es.map (fun e : MapEntry => (e.key, e.val)) = L.map (fun x => (Value.string x.1, x.2)) → findS k L = none → Instr.findNow .string (.string k) es i = some none
  | [], _, _, _, _, _ => rfl
  | e :: es, [], _, _, h, _ => by simp at h
  | e :: es, x :: L, k, i, h, hf => by
    simp only [List.map_cons, List.cons.injEq, Prod.mk.injEq] at h
    obtain ⟨⟨h1, h2⟩, h3⟩ := h
    unfold findS at hf
    split at hf
    · cases hf
    · rename_i hne
      have hs : Instr.sameNow .string (.string k) e.key = some false := by
        rw [h1]
        show some (k == x.1) = some false
        congr 1
        rw [Bool.eq_false_iff]
        exact fun h => hne ((bytes_beq _ _).1 h).symm
      simp only [Instr.findNow, hs]
      exact find_none es L k (i + 1) h3 hf
theorem find_some : ∀ (es : List MapEntry) (L : List (ByteArray × Value)) (k : ByteArray) (i : Nat) (v : Value), es.map (fun e : MapEntry => (e.key, e.val)) = L.map (fun x => (Value.string x.1, x.2)) → findS k L = some v → ∃ j, Instr.findNow .string (.string k) es i = some (some (j, v))
  | [], [], _, _, _, _, hf => by cases hf
  | [], x :: L, _, _, _, h, _ => by simp at h
  | e :: es, [], _, _, _, h, _ => by simp at h
  | e :: es, x :: L, k, i, v, h, hf => by
    simp only [List.map_cons, List.cons.injEq, Prod.mk.injEq] at h
    obtain ⟨⟨h1, h2⟩, h3⟩ := h
    unfold findS at hf
    split at hf
    · rename_i he
      cases hf
      refine ⟨i, ?_⟩
      have hs : Instr.sameNow .string (.string k) e.key = some true := by
        rw [h1]
        show some (k == x.1) = some true
        congr 1
        exact (bytes_beq _ _).2 he.symm
      simp only [Instr.findNow, hs, h2]
    · rename_i hne
      have hs : Instr.sameNow .string (.string k) e.key = some false := by
        rw [h1]
        show some (k == x.1) = some false
        congr 1
        rw [Bool.eq_false_iff]
        exact fun h => hne ((bytes_beq _ _).1 h).symm
      simp only [Instr.findNow, hs]
      exact find_some es L k (i + 1) v h3 hf
/-- A text is looked for, and found. -/
theorem MapAt.look (h : MapAt W b L) (hm : P.underlying t = some (.map kt et)) (hd : P.underlying kt = some .string) (k : ByteArray) (v : Value) (hf : findS k L = some v) : (Instr.lookup t (.map (some b)) (.string k) true).run P W = .ok (.tuple #[v, .bool true]) W := by
  obtain ⟨es, clock, hb, hl⟩ := h
  obtain ⟨j, hj⟩ := find_some es.toList L k 0 v hl hf
  have hk : IsKey .string (Value.string k) := trivial
  simp [Instr.lookup, run_underlying hm, MapKept.run_getObj_map hb, MapKept.run_checkKey hd hk, MapKept.run_findKey hd hj, Result.andThen]
/-- A new text is put. -/
theorem MapAt.put (h : MapAt W b L) (hm : P.underlying t = some (.map kt et)) (hd : P.underlying kt = some .string) (k : ByteArray) (v : Value) (hf : findS k L = none) : ∃ W', (Instr.mapUpdate t (.map (some b)) (.string k) v).run P W = .ok () W' ∧ MapAt W' b (L ++ [(k, v)]) ∧ Chg W.heap.size [b] W W' := by
  obtain ⟨es, clock, hb, hl⟩ := h
  have hk : IsKey .string (Value.string k) := trivial
  have h1 := find_none es.toList L k 0 hl hf
  refine ⟨{ W with heap := W.heap.setIfInBounds b (.map (es.push { key := .string k, val := v, born := clock }) (clock + 1)) }, by simp [Instr.mapUpdate, run_underlying hm, MapKept.run_getObj_map hb, MapKept.run_checkKey hd hk, MapKept.run_findKey hd h1, MapKept.run_setObj_map _ hb, Result.andThen], ⟨_, _, (MapKept.heap_set hb).1, ?_⟩, ⟨rfl, rfl, rfl, by simp, fun r hr hne => (MapKept.heap_set hb).2 r (fun e => hne (by rw [e]; exact List.mem_cons_self ..))⟩⟩
  simp [hl]
/-- As a step of the walk: a key of a map's literal. -/
theorem wp_put {ops : Array Oper} {rest : List Oper} {o : Oper} {a : Act} {Q : Exit → Act → World → Prop} (hg : o.guard = none) (m x v : Operand) (hop : o.op = Op.insert t m x v) (hm : P.underlying t = some (.map kt et)) (hd : P.underlying kt = some .string) (b : Nat) (L : List (ByteArray × Value)) (hb : a.eval m = .map (some b)) (k : ByteArray) (hx : a.eval x = .string k) (hown : MapAt W b L) (hf : findS k L = none)
    (hK : ∀ W', MapAt W' b (L ++ [(k, a.eval v)]) → Chg W.heap.size [b] W W' → wpList P ops Q rest (a.put o.dst undef) W') : wpList P ops Q (o :: rest) a W := by
  refine wpList_plain hg fun K' hK' => ?_
  obtain ⟨W', hrun, r1, r2⟩ := hown.put hm hd k (a.eval v) hf
  unfold Oper.wp
  simp [execOp, hop, hb, hx, hrun, Result.andThen]
  exact hK' _ _ (hK W' r1 r2)
end
end Go.Proofs.YtcnlonaighlmbaaGreatDoor
