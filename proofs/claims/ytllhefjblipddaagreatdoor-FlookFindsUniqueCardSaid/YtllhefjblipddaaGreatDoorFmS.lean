/- slices.Sort of whole numbers: they are the same ones. -/
import Derived.Test.YtllhefjblipddaaGreatDoorShelfT
import Derived.Test.YtllhefjblipddaaGreatDoorGal
set_option linter.unusedSimpArgs false
set_option linter.unusedVariables false
namespace Go.Proofs.YtllhefjblipddaaGreatDoor
open Go.RowKit Go.Sort

theorem chg_sorted (w : World) (n h : Nat) (d : Array Int) (os : Array Obj) : Chg w.heap.size [h] w (grow (putRow (Value.int .i64) (Go.Sort.ahead w n) h 0 d) os) := by
  refine ⟨rfl, rfl, rfl, by simp [grow, putRow, mapBlock, Go.Sort.ahead], fun k hk hn => ?_⟩
  have hne : h ≠ k := fun e => hn (by rw [e]; simp)
  have h1 : k < (putRow (Value.int .i64) (Go.Sort.ahead w n) h 0 d).heap.size := by simp [putRow, mapBlock, Go.Sort.ahead, hk]
  show ((putRow (Value.int .i64) (Go.Sort.ahead w n) h 0 d).heap ++ os)[k]? = _
  rw [Array.getElem?_append_left h1]
  simp [putRow, mapBlock, Go.Sort.ahead, Array.getElem?_modify, hne]
theorem sortN_any (zs : List Nat) (h cap B m : Nat) (w : World) (hr : R1 3 .i64 w B (.slice (some ⟨h, 0, none⟩) m cap) zs) (hm : zs.length = m) (hb : m ≤ 100000) (hc : m ≤ cap) :
    Calls Tryz.prog 105 #[.slice (some ⟨h, 0, none⟩) m cap] w fun e w' => e = .returned (.tuple #[]) ∧ (∃ zs' : List Nat, zs'.Perm zs ∧ Reads 1 (fun z : Int => [Value.int .i64 z]) w' (.slice (some ⟨h, 0, none⟩) m cap) (zs'.map fun (z : Nat) => (z : Int))) ∧ Chg w.heap.size [h] w w' := by
  obtain ⟨zi, hzi⟩ : ∃ zi : List Int, zi = zs.map fun (z : Nat) => (z : Int) := ⟨_, rfl⟩
  have hl : zi.length = m := by rw [hzi, List.length_map, hm]
  have hblk : h < w.heap.size := (hr.lt h rfl).2
  have hH : Holds (Value.int .i64) w h 0 zi.toArray := fun j hj => by
    have hj : j < m := by simpa [hl] using hj
    have hj2 : j < zs.length := by omega
    refine ⟨?_, hr.frozen hm _⟩
    rw [Nat.zero_add, hr.cell hm hj2]
    congr 2
    have h3 : j < zi.toArray.size := by simpa [hl] using hj
    rw [getElem!_pos zi.toArray j h3]
    simp [hzi]
  have hS := Tryz.slices_Sort_int h 0 cap zi w hH hblk (by rw [hl]; omega)
  rw [hl] at hS
  refine hS.mono ?_
  rintro e w' ⟨rfl, n, os, rfl⟩
  obtain ⟨so, hso⟩ : ∃ so, so = zi.mergeSort fun x y => decide (x ≤ y) := ⟨_, rfl⟩
  have hp : so.Perm zi := by rw [hso]; exact List.mergeSort_perm _ _
  rw [← hso]
  have hsl : so.length = m := by rw [hp.length_eq, hl]
  have hnn : ∀ x ∈ so, 0 ≤ x := fun x hx => by
    have := hp.mem_iff.1 hx
    rw [hzi] at this
    obtain ⟨y, -, rfl⟩ := List.mem_map.1 this
    omega
  have hback : ((so.map Int.toNat).map fun (z : Nat) => (z : Int)) = so := by
    rw [List.map_map]
    have : so.map ((fun (z : Nat) => (z : Int)) ∘ Int.toNat) = so.map id := List.map_congr_left fun x hx => by
      have := hnn x hx
      show ((x.toNat : Nat) : Int) = x
      omega
    rw [this, List.map_id]
  refine ⟨rfl, ⟨so.map Int.toNat, ?_, ?_⟩, chg_sorted w n h _ os⟩
  · have h1 := hp.map Int.toNat
    have h2 : zi.map Int.toNat = zs := by
      rw [hzi, List.map_map]
      have : zs.map (Int.toNat ∘ fun (z : Nat) => (z : Int)) = zs.map id := List.map_congr_left fun x _ => by
        show ((x : Int)).toNat = x
        omega
      rw [this, List.map_id]
    rw [h2] at h1
    exact h1
  · rw [hback]
    have hH2 : Holds (Value.int .i64) (putRow (Value.int .i64) (Go.Sort.ahead w n) h 0 so.toArray) h 0 so.toArray := holds_putRow _ _ _ _ zi.toArray _ (fun j hj => hH j hj) (by simp [hsl, hl])
    have hgs : h < (putRow (Value.int .i64) (Go.Sort.ahead w n) h 0 so.toArray).heap.size := by simp [putRow, mapBlock, Go.Sort.ahead, hblk]
    refine ⟨_, cap, by rw [hsl], by omega, (fun e => by cases e), fun _ => ⟨h, 0, rfl, ?_, fun i hi j hj => ?_⟩⟩
    · show h < ((putRow (Value.int .i64) (Go.Sort.ahead w n) h 0 so.toArray).heap ++ os).size
      rw [Array.size_append]
      omega
    · have hj : j < 1 := hj
      obtain rfl : j = 0 := by omega
      rw [show 0 + (i * 1 + 0) = 0 + i by omega, cell?_grow _ _ _ (by exact hgs), (hH2 i (by simpa using hi)).1]
      have h3 : i < so.toArray.size := by simpa using hi
      rw [getElem!_pos so.toArray i h3]
      simp
end Go.Proofs.YtllhefjblipddaaGreatDoor
