/- slices.Backward over a nat: its rounds, for every loop body that keeps the digits and the box. -/
import Derived.RangeFuncBox
import Derived.RangeFuncNested
import Derived.RangeFuncCalls
import Derived.RangeFuncLeaves
import Derived.Shelf.Abstract
import Derived.Shelf.RegionOpen
import Derived.OwnWalkIn
import Derived.TacticsInMore
import Derived.LoopNIn
import Derived.LoopIn
import Derived.Test.YtcnlonaighlmbaaGreatDoorNatJ
set_option linter.unusedSimpArgs false
set_option linter.unusedVariables false
namespace Go.Proofs.YtcnlonaighlmbaaGreatDoor
open Go.RowKit Go.Shelf

attribute [local go_sem] Oper.semAt_some

/-- A place and its digit. -/
abbrev Pd := { x : Nat × Nat // x.2 < Nt.B }
def upto {α : Type} (f : Nat → α) (k : Nat) : List α := (List.range k).map f
theorem upto_succ {α : Type} (f : Nat → α) (k : Nat) : upto f (k + 1) = upto f k ++ [f k] := by simp [upto, List.range_succ]
theorem upto_length {α : Type} (f : Nat → α) (k : Nat) : (upto f k).length = k := by simp [upto]

/-- What a round keeps: all below n₀, and the block Bs. -/
def Kb (n₀ Bs : Nat) (W W' : World) : Prop := Below n₀ W W' ∧ W'.heap[Bs]? = W.heap[Bs]?
theorem Kb.trans {n₀ Bs : Nat} {X Y Z : World} (h : Kb n₀ Bs X Y) (k : Kb n₀ Bs Y Z) : Kb n₀ Bs X Z := ⟨h.1.trans k.1, k.2.trans h.2⟩
theorem Kb.refl (n₀ Bs : Nat) (W : World) : Kb n₀ Bs W W := ⟨Below.refl _ _, rfl⟩
theorem Kb.cell {n₀ Bs : Nat} {W W' : World} (h : Kb n₀ Bs W W') : W'.cell? ⟨Bs, 0, none⟩ = W.cell? ⟨Bs, 0, none⟩ := World.cell?_of_block h.2
theorem kb_b {n₀ Bs : Nat} {w : World} (hn : n₀ ≤ w.heap.size) (hB : Bs < w.heap.size) (W : World) (l : Nat) (o o' : Obj) (hl : w.heap.size ≤ l) (h : W.heap[l]? = some o) (h1 : o.isCells = false) (h2 : o.isWalk = false) : Kb n₀ Bs W (W.putObj l o') :=
  ⟨belowK_b hn W l o o' hl h h1 h2, World.putObj_heap_other (by omega)⟩

set_option maxRecDepth 100000 in
set_option maxHeartbeats 2000000 in
theorem back1_in (F : Fence) (n : Nat) (hf : F.fn 263) (hro : F.round = none) (hn : 1 ≤ n) (l Bs n₀ b off len cap : Nat) (zs : List Nat) (hz : ∀ j, zs[j]?.getD 0 < Nt.B) (hlen : len ≤ 1099511627776) (hb : b < n₀) (J Jx : List Pd → World → Prop)
    (hY : ∀ pre x W, J pre W → pre.length < len → YieldAt F (n - 1) Tryz.prog l #[.int .i64 (x.1.1 : Int), .int .u32 (x.1.2 : Int)] W fun e W' =>
      (e = .returned (.bool true) ∧ J (pre ++ [x]) W' ∧ Kb n₀ Bs W W') ∨ (e = .returned (.bool false) ∧ Jx (pre ++ [x]) W'))
    (W : World) (hBs : W.cell? ⟨Bs, 0, none⟩ = some (.slice (some ⟨b, off, none⟩) len cap)) (hc : ∀ j, j < len → W.cell? ⟨b, off + j, none⟩ = some (.int .u32 (zs[j]?.getD 0 : Nat))) (h0 : J [] W) :
    CallsIn F n Tryz.prog 263 #[.func (.yield l) #[] #[], .pointer (some ⟨Bs, 0, none⟩)] W fun e W' => (∃ v, e = .returned v) ∧
      ((∃ ys, ys = upto (fun j => (⟨(len - 1 - j, zs[len - 1 - j]?.getD 0), hz _⟩ : Pd)) len ∧ J ys W') ∨ (∃ pre : List Pd, True ∧ Jx pre W')) := by
  refine callsIn_of_wp Tryz.func263 rfl hf ?_ hro
  simp only [Tryz.ntmps263, List.size_toArray, List.length_cons, List.length_nil, Nat.reduceAdd, Nat.reduceSub, Array.replicate_succ, Array.replicate_zero, List.push_toArray, List.append_toArray, List.nil_append, List.cons_append]
  gi_wp2
  gi_loopw [3] (fun i wr => ∃ k : Nat, k ≤ len ∧ i = .int .i64 ((len : Int) - k - 1) ∧ J (upto (fun j => (⟨(len - 1 - j, zs[len - 1 - j]?.getD 0), hz _⟩ : Pd)) k) wr ∧ Kb n₀ Bs W wr)
    (fun i _ => (intOf i + 1).toNat)
  case atStart => exact ⟨0, Nat.zero_le _, by simp, h0, Kb.refl _ _ _⟩
  case round =>
    obtain ⟨k, hk, rfl, hJs, hnx⟩ := hrel
    rcases Nat.lt_or_ge k len with hlt | hge
    · obtain ⟨fn, tmps, assign, body, hy, hR⟩ := hY _ (⟨(len - 1 - k, zs[len - 1 - k]?.getD 0), hz _⟩ : Pd) wr hJs (by rw [upto_length]; exact hlt)
      dsimp only at hy
      have hbx : wr.cell? ⟨Bs, 0, none⟩ = some (.slice (some ⟨b, off, none⟩) len cap) := hnx.cell.trans hBs
      have hcx := (hnx.1.cell (p := ⟨b, off + (len - 1 - k), none⟩) hb).trans (hc (len - 1 - k) (by omega))
      obtain ⟨i, hi⟩ : ∃ i : Nat, i = len - 1 - k := ⟨_, rfl⟩
      have ei : (len : Int) - k - 1 = i := by omega
      have hil : i < len := by omega
      have he2 : (i : Int) - 1 = (len : Int) - (k + 1 : Nat) - 1 := by omega
      rw [← hi] at hcx hy hR
      rw [ei]
      obtain ⟨d, hd⟩ : ∃ d : Nat, d = zs[i]?.getD 0 := ⟨_, rfl⟩
      rw [← hd] at hcx hy
      have HI := Lib.hid hi
      have HE := Lib.hid he2
      have HD := Lib.hid hd
      clear hi he2 hd ei
      gi_wp2
      refine hR.mono ?_
      rintro e W3 (⟨rfl, hJ3, hk3⟩ | ⟨rfl, hJx3⟩)
      · gi_wp2
        go_roundw
        case rel => exact ⟨k + 1, by omega, by rw [HE.out], by rw [upto_succ]; exact (by have := HI.out; subst this; exact hJ3), hnx.trans hk3⟩
        case measure => simp [intOf]
      · gi_wp2
        refine bodyPost_ret (results_none rfl _ _ _) rfl ?_
        exact ⟨⟨_, rfl⟩, .inr ⟨_, trivial, hJx3⟩⟩
    · obtain rfl : k = len := by omega
      have ei : (k : Int) - k - 1 = -1 := by omega
      rw [ei]
      gi_wp2
      go_end0
      exact ⟨⟨_, rfl⟩, .inl ⟨_, rfl, hJs⟩⟩

set_option maxRecDepth 100000 in
set_option maxHeartbeats 1000000 in
theorem back1_nil_in (F : Fence) (n : Nat) (hf : F.fn 263) (hro : F.round = none) (l Bs : Nat) (J : List Pd → World → Prop) (W : World) (A : Option Addr) (c : Nat) (hBs : W.cell? ⟨Bs, 0, none⟩ = some (.slice A 0 c)) (h0 : J [] W) :
    CallsIn F n Tryz.prog 263 #[.func (.yield l) #[] #[], .pointer (some ⟨Bs, 0, none⟩)] W fun e W' => (∃ v, e = .returned v) ∧ J [] W' := by
  refine callsIn_of_wp Tryz.func263 rfl hf ?_ hro
  simp only [Tryz.ntmps263, List.size_toArray, List.length_cons, List.length_nil, Nat.reduceAdd, Nat.reduceSub, Array.replicate_succ, Array.replicate_zero, List.push_toArray, List.append_toArray, List.nil_append, List.cons_append]
  gi_wp2
  gi_loopw [3] (fun i wr => i = .int .i64 (-1) ∧ J [] wr) (fun _ _ => 0)
  case atStart => exact ⟨rfl, h0⟩
  case round =>
    obtain ⟨rfl, hJs⟩ := hrel
    gi_wp2
    go_end0
    exact ⟨⟨_, rfl⟩, hJs⟩

set_option maxRecDepth 100000 in
set_option maxHeartbeats 1000000 in
theorem backward_in (F : Fence) (n : Nat) (hf : F.fn 231) (hro : F.round = none) (a : Option Addr) (len cap : Nat) (w : World) :
    CallsIn F n Tryz.prog 231 #[.slice a len cap] w fun e w' => e = .returned (.func (.func 263) #[] #[.pointer (some ⟨w.heap.size, 0, none⟩)]) ∧ w' = w.alloc (.cells #[.slice a len cap] 58) := by
  refine callsIn_of_wp Tryz.func231 rfl hf ?_ hro
  simp only [Tryz.ntmps231, List.size_toArray, List.length_cons, List.length_nil, Nat.reduceAdd, Nat.reduceSub, Array.replicate_succ, Array.replicate_zero, List.push_toArray, List.append_toArray, List.nil_append, List.cons_append]
  gi_wp2
  go_ret
  exact ⟨rfl, rfl⟩

theorem getD_dig {l : List Nat} (h : Nt.dig l) (j : Nat) : l[j]?.getD 0 < Nt.B := by
  rcases Nat.lt_or_ge j l.length with hj | hj
  · rw [List.getElem?_eq_getElem hj]
    exact h _ (List.getElem_mem hj)
  · rw [List.getElem?_eq_none hj]
    exact (by decide : (0 : Nat) < Nt.B)
/-- What comes: the digits from the greatest, with their places. -/
def comes (l : List Nat) (h : Nt.dig l) : List Pd := upto (fun j => (⟨(l.length - 1 - j, l[l.length - 1 - j]?.getD 0), getD_dig h _⟩ : Pd)) l.length

theorem back_stops (F : Fence) (n : Nat) (hf : F.fn 263) (hro : F.round = none) (hn : 1 ≤ n) (Bs n₀ : Nat) (sv : Value) (l : List Nat) (hl : Nt.dig l) (w0 w : World) (hBs : Bs < w.heap.size) (hn₀ : n₀ = w0.heap.size)
    (hc : w.cell? ⟨Bs, 0, none⟩ = some sv) (hI : Nv w0 sv l) (hb : Below n₀ w0 w) :
    SeqStopsK F n Tryz.prog 263 #[.pointer (some ⟨Bs, 0, none⟩)] (fun x : Pd => #[Value.int .i64 (x.1.1 : Int), Value.int .u32 (x.1.2 : Int)]) (Kb n₀ Bs) (fun ys => ys = comes l hl) (fun _ => True) l.length w := fun k J Jx W hW _ _ hY h0 => by
  subst hn₀
  have hc' := (hW.cell (p := ⟨Bs, 0, none⟩) hBs).trans hc
  have hn' := hI.len
  obtain ⟨A, c, rfl, -, -, -, hC⟩ := hI.ex
  rcases Nat.eq_zero_or_pos l.length with h00 | hpos
  · obtain rfl := List.eq_nil_of_length_eq_zero h00
    exact (back1_nil_in F n hf hro k Bs J W A c hc' h0).mono fun e W' ⟨he, hj⟩ => ⟨he, .inl ⟨_, rfl, hj⟩⟩
  · obtain ⟨b, o, rfl, hb', hcell⟩ := hC hpos
    have hcs : ∀ j, j < l.length → W.cell? ⟨b, o + j, none⟩ = some (.int .u32 (l[j]?.getD 0 : Nat)) := fun j hj => by
      have h1 : w.cell? ⟨b, o + j, none⟩ = w0.cell? ⟨b, o + j, none⟩ := hb.cell (p := ⟨b, o + j, none⟩) hb'
      have h2 : W.cell? ⟨b, o + j, none⟩ = w.cell? ⟨b, o + j, none⟩ := hW.cell (p := ⟨b, o + j, none⟩) (Nat.lt_of_lt_of_le hb' hb.size)
      rw [h2, h1, hcell j hj, List.getElem?_eq_getElem hj]
      rfl
    exact back1_in F n hf hro hn k Bs w0.heap.size b o l.length c l (getD_dig hl) hn' hb' J Jx hY W hc' hcs h0
end Go.Proofs.YtcnlonaighlmbaaGreatDoor
