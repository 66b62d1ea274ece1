/- squash: worlds that differ in some blocks alone; the table of lengths; match, span. -/
import Derived.Test.YtcojoigbcfaajaaDoorRows
import Derived.Test.YtcojoigbcfaajaaDoorMem
import Derived.Test.YtcojoigbcfaajaaDoorMem3
import Derived.WalkKit
import Derived.WalkSpells
import Derived.WalkLawsBesides
import Derived.Outline
import Derived.Lib.Hide
import Derived.IntWalk
import Derived.Deep.QuietTactic
import Derived.BigQuiet
namespace Go.Proofs.YtcojoigbcfaajaaDoor
open Go.RowKit

/-- Below a number of a block the world has changed in blocks of a list alone. -/
structure Chg (B : Nat) (G : List Nat) (w w' : World) : Prop where
  os : w'.os = w.os
  tape : w'.tape = w.tape
  output : w'.output = w.output
  size : w.heap.size ≤ w'.heap.size
  block : ∀ k, k < B → k ∉ G → w'.heap[k]? = w.heap[k]?
section
variable {B B' : Nat} {G G' : List Nat} {w w' w'' : World} {g : Nat} {t : TypeId} {cs : Array Value}
theorem Chg.refl (B : Nat) (G : List Nat) (w : World) : Chg B G w w := ⟨rfl, rfl, rfl, Nat.le_refl _, fun _ _ _ => rfl⟩
theorem Chg.trans (h : Chg B G w w') (k : Chg B G w' w'') : Chg B G w w'' :=
  ⟨k.os.trans h.os, k.tape.trans h.tape, k.output.trans h.output, Nat.le_trans h.size k.size, fun i hi hg => (k.block i hi hg).trans (h.block i hi hg)⟩
theorem Chg.mono (h : Chg B G w w') (hB : B' ≤ B) (hs : ∀ x ∈ G, x ∈ G' ∨ B' ≤ x) : Chg B' G' w w' :=
  ⟨h.os, h.tape, h.output, h.size, fun k hk hg => h.block k (by omega) fun hx => by
    rcases hs k hx with h1 | h1
    · exact hg h1
    · omega⟩
theorem Chg.next (h : Chg w.heap.size G w w') (k : Chg w'.heap.size G w' w'') : Chg w.heap.size G w w'' := h.trans (k.mono h.size fun _ hx => .inl hx)
theorem Chg.below (h : Chg B G w w') (hB : B' ≤ B) (hs : ∀ x ∈ G, B' ≤ x) : Below B' w w' :=
  ⟨h.os, h.tape, h.output, h.size, fun k hk => h.block k (by omega) fun hx => by have := hs k hx; omega⟩
theorem Chg.of (h : Below B w w') (G : List Nat) : Chg B G w w' := ⟨h.os, h.tape, h.output, h.size, fun k hk _ => h.block k hk⟩
theorem Chg.blk (h : Chg B G w w') (hb : Blk w g t cs) (hB : g < B) (hg : g ∉ G) : Blk w' g t cs := (h.block g hB hg).trans hb
theorem Chg.alloc (h : Chg B G w w') (hB : B ≤ w'.heap.size) (o : Obj) : Chg B G w (w'.alloc o) := h.trans (Chg.of ((Below.refl _ _).alloc hB o) G)
theorem Chg.drew (h : Chg B G w w') : Chg B G w w'.drew := ⟨h.os, h.tape, h.output, h.size, h.block⟩
theorem Chg.drewN (h : Chg B G w w') (n : Nat) : Chg B G w (w'.drewN n) := ⟨h.os, h.tape, h.output, h.size, h.block⟩
theorem Chg.set (h : Chg B G w w') {p : Addr} (hp : p.block ∈ G ∨ B ≤ p.block) (v : Value) : Chg B G w (w'.setCell p v) :=
  ⟨h.os, h.tape, h.output, by simpa [World.setCell] using h.size, fun k hk hg => (Below.heap_setCell _ _ _ _ (fun e => by
    rcases hp with h1 | h1
    · exact hg (e ▸ h1)
    · omega)).trans (h.block k hk hg)⟩
end

/-- The table of the least lengths. -/
def bas : Nat → Int
  | 0 => 11 | 1 => 13 | 2 => 17 | 3 => 25 | 4 => 41 | 5 => 73 | 6 => 137 | _ => 265
def SEnv (W : World) : Prop := ∀ k, k < 8 → W.cell? ⟨0, k, none⟩ = some (.int .i64 (bas k))
theorem SEnv.lt {W : World} (h : SEnv W) : 0 < W.heap.size := World.block_lt_of_cell? _ _ (h 0 (by decide))
theorem SEnv.chg {w W : World} {B : Nat} {G : List Nat} (h : SEnv w) (hc : Chg B G w W) (hB : 0 < B) (hg : 0 ∉ G) : SEnv W := fun k hk => by
  rw [← h k hk]
  exact World.cell?_of_block (a := ⟨0, k, none⟩) (hc.block _ hB hg)
theorem SEnv.below {w W : World} (h : SEnv w) (hb : Below w.heap.size w W) : SEnv W := h.chg (Chg.of hb []) h.lt (by simp)

/-- The symbol, the extra bits and their number of a length. -/
def matK (n : Nat) : Nat := if n < 13 then 0 else if n < 17 then 1 else if n < 25 then 2 else if n < 41 then 3 else if n < 73 then 4 else if n < 137 then 5 else if n < 265 then 6 else 7
def mat (n : Nat) : Nat × Nat × Nat := if n < 11 then (256 + n - 3, 0, 0) else (264 + matK n, n - (bas (matK n)).toNat, matK n + 1)
theorem bas_gt (n k : Nat) (hk : k < 8) (h : 11 ≤ n) : (n : Int) < bas k ↔ matK n < k := by
  rcases (show k = 0 ∨ k = 1 ∨ k = 2 ∨ k = 3 ∨ k = 4 ∨ k = 5 ∨ k = 6 ∨ k = 7 by omega) with rfl | rfl | rfl | rfl | rfl | rfl | rfl | rfl <;> unfold matK <;> simp only [bas] <;> (repeat' split) <;> omega
theorem matK_lt (n : Nat) : matK n < 8 := by unfold matK; (repeat' split) <;> omega
theorem bas_le (n : Nat) (h : 11 ≤ n) : bas (matK n) ≤ (n : Int) := by
  have := bas_gt n (matK n) (matK_lt n) h
  by_cases hh : (n : Int) < bas (matK n)
  · exact absurd (this.1 hh) (Nat.lt_irrefl _)
  · omega
theorem bas_nn (k : Nat) : 11 ≤ bas k ∧ bas k ≤ 265 := by
  unfold bas
  split <;> omega
set_option maxRecDepth 100000 in
set_option maxHeartbeats 1000000 in
theorem match_any (n : Nat) (w : World) (he : SEnv w) (_h3 : 3 ≤ n) (hn : n ≤ 520) :
    Calls Tryd.prog 22 #[.int .i64 n] w fun e w' => e = .returned (.tuple #[.int .i64 (mat n).1, .int .i64 (mat n).2.1, .int .i64 (mat n).2.2]) ∧ Below w.heap.size w w' := by
  by_cases h : n < 11
  · have hm : mat n = (256 + n - 3, 0, 0) := if_pos h
    rw [hm]
    have hz : (n : Int) < 11 := by omega
    have E1 := Lib.hid (show (256 : Int) + (n : Int) - 3 = ((256 + n - 3 : Nat) : Int) by omega)
    clear he hm
    go_enter Tryd.func22, Tryd.ntmps22
    go_wp2
    go_ret3
    exact ⟨by rw [E1.out]; rfl, Below.refl _ _⟩
  · have hm : mat n = (264 + matK n, n - (bas (matK n)).toNat, matK n + 1) := if_neg h
    rw [hm]
    have hz : ¬ (n : Int) < 11 := by omega
    have hb := bas_le n (by omega)
    have hb2 := bas_nn (matK n)
    have hK := matK_lt n
    obtain ⟨m, hM⟩ : ∃ m, m = matK n := ⟨_, rfl⟩
    have HG := Lib.hid (fun k (hk : k < 8) => hM ▸ bas_gt n k hk (by omega))
    have HE := Lib.hid he
    rw [← hM] at hb hb2 hK ⊢
    have E1 := Lib.hid (show ((n - (bas m).toNat : Nat) : Int) = (n : Int) - bas m by omega)
    rw [E1.out, show ((264 + m : Nat) : Int) = 264 + (m : Int) by omega, show ((m + 1 : Nat) : Int) = (m : Int) + 1 by omega]
    clear he hm hM E1
    go_enter Tryd.func22, Tryd.ntmps22
    go_wp2
    go_loop [5] (fun s => ∃ k : Nat, k ≤ 7 ∧ m ≤ k ∧ s = .int .i64 k) (fun s => (intOf s).toNat)
    case atStart => exact ⟨7, by omega, by omega, rfl⟩
    case round =>
      obtain ⟨k, hk7, hmk, rfl⟩ := hrel
      have hc := HE.out k (by omega)
      have hk8 : (k : Int) < 8 := by omega
      by_cases hlt : m < k
      · have hg : (n : Int) < bas k := (HG.out k (by omega)).2 hlt
        generalize bas k = u at *
        go_wp2
        go_round
        case rel => exact ⟨k - 1, by omega, by omega, by congr 1; omega⟩
        case measure => simp [intOf]; omega
      · obtain rfl : m = k := by omega
        have hg : ¬ (n : Int) < bas m := by omega
        obtain ⟨u, hu⟩ : ∃ u, u = bas m := ⟨_, rfl⟩
        rw [← hu] at hc hg hb hb2
        have HU := Lib.hid hu
        clear hu
        have w1 : IntKind.i64.wrap (264 + (m : Int)) = 264 + (m : Int) := IntWalk.i64_in _ (by omega)
        have w2 : IntKind.i64.wrap ((n : Int) - u) = (n : Int) - u := IntWalk.i64_in _ (by omega)
        have w3 : IntKind.i64.wrap ((m : Int) + 1) = (m : Int) + 1 := IntWalk.i64_in _ (by omega)
        go_wp2
        go_quiet (fail)
        go_wp2
        go_ret3
        rw [← HU.out]
        exact ⟨rfl, ⟨rfl, rfl, rfl, Nat.le_refl _, fun _ _ => rfl⟩⟩

/-- The least length and the number of extra bits of a symbol. -/
def spn (s : Nat) : Int × Nat := if s < 264 then ((s : Int) - 253, 0) else (bas (s - 264), s - 263)
set_option maxRecDepth 100000 in
theorem span_any (s : Nat) (w : World) (he : SEnv w) (h1 : 256 ≤ s) (h2 : s < 272) :
    Calls Tryd.prog 27 #[.int .i64 s] w fun e w' => e = .returned (.tuple #[.int .i64 (spn s).1, .int .i64 (spn s).2]) ∧ Below w.heap.size w w' := by
  by_cases h : s < 264
  · rw [show spn s = ((s : Int) - 253, 0) from if_pos h]
    have hz : (s : Int) < 264 := by omega
    clear he
    go_enter Tryd.func27, Tryd.ntmps27
    go_wp2
    go_ret2
    exact ⟨rfl, Below.refl _ _⟩
  · rw [show spn s = (bas (s - 264), s - 263) from if_neg h]
    have hz : ¬ (s : Int) < 264 := by omega
    obtain ⟨k, hk⟩ : ∃ k, k = s - 264 := ⟨_, rfl⟩
    have hc := he k (by omega)
    have e1 : (s : Int) - 264 = (k : Int) := by omega
    have e2 : (k : Int) < 8 := by omega
    have e3 : (s : Int) - 263 = (k : Int) + 1 := by omega
    have E4 := Lib.hid (show ((s - 263 : Nat) : Int) = (k : Int) + 1 by omega)
    rw [E4.out, ← hk]
    have w1 : IntKind.i64.wrap (k : Int) = (k : Int) := IntWalk.i64_in _ (by omega)
    have w2 : IntKind.i64.wrap ((k : Int) + 1) = (k : Int) + 1 := IntWalk.i64_in _ (by omega)
    clear he hk
    generalize bas k = u at *
    go_enter Tryd.func27, Tryd.ntmps27
    go_wp2
    first
      | (go_ret2; exact ⟨rfl, Below.refl _ _⟩)
      | (go_quiet (fail)
         go_wp2
         go_ret2
         exact ⟨rfl, ⟨rfl, rfl, rfl, Nat.le_refl _, fun _ _ => rfl⟩⟩)
end Go.Proofs.YtcojoigbcfaajaaDoor
