/- Worlds that differ in some blocks alone. -/
import Derived.Test.YtigeipjkcidleaaGreatDoorMem
namespace Go.Proofs.YtigeipjkcidleaaGreatDoor
open Go.RowKit

/-- Below a number of a block the world has changed in blocks of a list alone. -/
structure Chg (B : Nat) (G : List Nat) (w w' : World) : Prop where
  os : w'.os = w.os
  tape : w'.tape = w.tape
  output : w'.output = w.output
  size : w.heap.size ≤ w'.heap.size
  block : ∀ k, k < B → k ∉ G → w'.heap[k]? = w.heap[k]?
section
variable {B B' : Nat} {G G' : List Nat} {w w' w'' : World} {g : Nat} {t : TypeId} {cs : Array Value}
theorem Chg.refl (B : Nat) (G : List Nat) (w : World) : Chg B G w w := ⟨rfl, rfl, rfl, Nat.le_refl _, fun _ _ _ => rfl⟩
theorem Chg.trans (h : Chg B G w w') (k : Chg B G w' w'') : Chg B G w w'' :=
  ⟨k.os.trans h.os, k.tape.trans h.tape, k.output.trans h.output, Nat.le_trans h.size k.size, fun i hi hg => (k.block i hi hg).trans (h.block i hi hg)⟩
theorem Chg.mono (h : Chg B G w w') (hB : B' ≤ B) (hs : ∀ x ∈ G, x ∈ G' ∨ B' ≤ x) : Chg B' G' w w' :=
  ⟨h.os, h.tape, h.output, h.size, fun k hk hg => h.block k (by omega) fun hx => by
    rcases hs k hx with h1 | h1
    · exact hg h1
    · omega⟩
theorem Chg.next (h : Chg w.heap.size G w w') (k : Chg w'.heap.size G w' w'') : Chg w.heap.size G w w'' := h.trans (k.mono h.size fun _ hx => .inl hx)
theorem Chg.below (h : Chg B G w w') (hB : B' ≤ B) (hs : ∀ x ∈ G, B' ≤ x) : Below B' w w' :=
  ⟨h.os, h.tape, h.output, h.size, fun k hk => h.block k (by omega) fun hx => by have := hs k hx; omega⟩
theorem Chg.of (h : Below B w w') (G : List Nat) : Chg B G w w' := ⟨h.os, h.tape, h.output, h.size, fun k hk _ => h.block k hk⟩
theorem Chg.blk (h : Chg B G w w') (hb : Blk w g t cs) (hB : g < B) (hg : g ∉ G) : Blk w' g t cs := (h.block g hB hg).trans hb
theorem Chg.alloc (h : Chg B G w w') (hB : B ≤ w'.heap.size) (o : Obj) : Chg B G w (w'.alloc o) := h.trans (Chg.of ((Below.refl _ _).alloc hB o) G)
theorem Chg.drew (h : Chg B G w w') : Chg B G w w'.drew := ⟨h.os, h.tape, h.output, h.size, h.block⟩
theorem Chg.drewN (h : Chg B G w w') (n : Nat) : Chg B G w (w'.drewN n) := ⟨h.os, h.tape, h.output, h.size, h.block⟩
theorem Chg.set (h : Chg B G w w') {p : Addr} (hp : p.block ∈ G ∨ B ≤ p.block) (v : Value) : Chg B G w (w'.setCell p v) :=
  ⟨h.os, h.tape, h.output, by simpa [World.setCell] using h.size, fun k hk hg => (Below.heap_setCell _ _ _ _ (fun e => by
    rcases hp with h1 | h1
    · exact hg (e ▸ h1)
    · omega)).trans (h.block k hk hg)⟩
end

end Go.Proofs.YtigeipjkcidleaaGreatDoor
