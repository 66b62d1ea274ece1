/- flook: an array turned. -/
import Derived.Test.YtllhefjblipddaaGreatDoorGak
import Derived.Test.YtllhefjblipddaaGreatDoorFkP
import Derived.Test.YtllhefjblipddaaGreatDoorGah
import Derived.Test.YtllhefjblipddaaGreatDoorGaj
import Derived.Deep.Cut
import Derived.Deep.CutBlock
import Derived.Deep.DeepCutAuto
import Derived.StillTailTactics
import Derived.Defers
import Derived.Recover
set_option linter.unusedSimpArgs false
set_option linter.unusedVariables false
namespace Go.Proofs.YtllhefjblipddaaGreatDoor
open Go.RowKit

/-- The cells of one value of a slice. -/
theorem read_at {b o n c x : Nat} {us : List Vl} {W : World} (h : Reads 9 csV W (.slice (some ⟨b, o, none⟩) n c) us) (hx : x < n) : ∃ uk unum uden utext uon ucode urows ucols uA un uc, us[x]! = ⟨uk, unum, uden, utext, uon, ucode, urows, ucols, uA, un, uc⟩ ∧ ∀ W', Below W.heap.size W W' → W'.cell? ⟨b, o + x * 9, none⟩ = some (.int .i64 uk) ∧ W'.cell? ⟨b, o + x * 9 + 1, none⟩ = some (.string unum) ∧ W'.cell? ⟨b, o + x * 9 + 2, none⟩ = some (.string uden) ∧ W'.cell? ⟨b, o + x * 9 + 3, none⟩ = some (.string utext) ∧ W'.cell? ⟨b, o + x * 9 + 4, none⟩ = some (.bool uon) ∧ W'.cell? ⟨b, o + x * 9 + 5, none⟩ = some (.int .i64 ucode) ∧ W'.cell? ⟨b, o + x * 9 + 6, none⟩ = some (.int .i64 urows) ∧ W'.cell? ⟨b, o + x * 9 + 7, none⟩ = some (.int .i64 ucols) ∧ W'.cell? ⟨b, o + x * 9 + 8, none⟩ = some (.slice uA un uc) := by
  obtain ⟨hl, hb, hc⟩ := h.lt (by omega)
  obtain ⟨u, hu⟩ : ∃ u, us[x]! = u := ⟨_, rfl⟩
  obtain ⟨uk, unum, uden, utext, uon, ucode, urows, ucols, uA, un, uc⟩ := u
  refine ⟨uk, unum, uden, utext, uon, ucode, urows, ucols, uA, un, uc, hu, fun W' hW => ?_⟩
  have g : ∀ j, j < 9 → W'.cell? ⟨b, o + x * 9 + j, none⟩ = (Vl.cs ⟨uk, unum, uden, utext, uon, ucode, urows, ucols, uA, un, uc⟩).toList[j]? := fun j hj => by
    have h1 := hc x (by omega) j hj
    rw [Nat.add_assoc]
    refine (hW.cell (by exact hb)).trans (h1.trans ?_)
    rw [getElem!_pos us x (by omega)] at hu
    rw [hu]
    rfl
  exact ⟨g 0 (by decide), g 1 (by decide), g 2 (by decide), g 3 (by decide), g 4 (by decide), g 5 (by decide), g 6 (by decide), g 7 (by decide), g 8 (by decide)⟩
end Go.Proofs.YtllhefjblipddaaGreatDoor

namespace Go.Proofs.YtllhefjblipddaaGreatDoor
open Go.RowKit

/-- An array, as a value laid open. -/
abbrev arrU (R C : Nat) (A : Option Addr) (n cc : Nat) : Vl := ⟨5, ⟨#[]⟩, ⟨#[]⟩, ⟨#[]⟩, false, 0, (R : Int), (C : Int), A, n, cc⟩
/-- The value is an array of so many rows and columns, its items lie in memory. -/
structure AR (W : World) (u : Vl) (R C : Nat) (us : List Vl) : Prop where
  ex : ∃ A n cc, u = arrU R C A n cc ∧ n = R * C ∧ Reads 9 csV W (.slice A n cc) us
  r1 : 1 ≤ R
  r2 : R ≤ 1000
  c1 : 1 ≤ C
  c2 : C ≤ 100
  big : R * C ≤ 100000
theorem AR.below {W W' : World} {u : Vl} {R C : Nat} {us : List Vl} (h : AR W u R C us) (hb : Below W.heap.size W W') : AR W' u R C us := by
  obtain ⟨A, n, cc, h1, h2, h3⟩ := h.ex
  exact ⟨⟨A, n, cc, h1, h2, h3.below hb⟩, h.r1, h.r2, h.c1, h.c2, h.big⟩
theorem AR.len {W : World} {u : Vl} {R C : Nat} {us : List Vl} (h : AR W u R C us) : us.length = R * C := by
  obtain ⟨A, n, cc, h1, h2, h3⟩ := h.ex
  obtain ⟨A', c', e, -⟩ := h3
  injection e with e1 e2 e3
  omega
/-- A slice reads as it did where its block is as it was. -/
theorem reads_same {α : Type} {size : Nat} {f : α → List Value} {W W' : World} {g o n c : Nat} {l : List α} (h : Reads size f W (.slice (some ⟨g, o, none⟩) n c) l) (hs : W.heap.size ≤ W'.heap.size) (hb : W'.heap[g]? = W.heap[g]?) : Reads size f W' (.slice (some ⟨g, o, none⟩) n c) l := by
  obtain ⟨A, c', e, h1, h2, h3⟩ := h
  refine ⟨A, c', e, h1, h2, fun h0 => ?_⟩
  obtain ⟨b, o', e', hl, hc⟩ := h3 h0
  injection e with e1 e2 e3
  rw [e'] at e1
  injection e1 with e1
  injection e1 with e4 e5 e6
  subst e4 e5
  exact ⟨g, o, e', Nat.lt_of_lt_of_le hl hs, fun i hi j hj => (World.cell?_of_block hb).trans (hc i hi j hj)⟩
theorem chg_nine (w : World) (t : Nat) (y0 y1 y2 y3 y4 y5 y6 y7 y8 : Value) : Chg w.heap.size [t] w (((((((((w.setCell ⟨t, 0, none⟩ y0).setCell ⟨t, 1, none⟩ y1).setCell ⟨t, 2, none⟩ y2).setCell ⟨t, 3, none⟩ y3).setCell ⟨t, 4, none⟩ y4).setCell ⟨t, 5, none⟩ y5).setCell ⟨t, 6, none⟩ y6).setCell ⟨t, 7, none⟩ y7).setCell ⟨t, 8, none⟩ y8) := ((((((((((Chg.refl w.heap.size [t] w).set (p := ⟨t, 0, none⟩) (.inl (List.mem_singleton.2 rfl)) y0).set (p := ⟨t, 1, none⟩) (.inl (List.mem_singleton.2 rfl)) y1).set (p := ⟨t, 2, none⟩) (.inl (List.mem_singleton.2 rfl)) y2).set (p := ⟨t, 3, none⟩) (.inl (List.mem_singleton.2 rfl)) y3).set (p := ⟨t, 4, none⟩) (.inl (List.mem_singleton.2 rfl)) y4).set (p := ⟨t, 5, none⟩) (.inl (List.mem_singleton.2 rfl)) y5).set (p := ⟨t, 6, none⟩) (.inl (List.mem_singleton.2 rfl)) y6).set (p := ⟨t, 7, none⟩) (.inl (List.mem_singleton.2 rfl)) y7).set (p := ⟨t, 8, none⟩) (.inl (List.mem_singleton.2 rfl)) y8)
/-- A block that is old, or newer than the call. -/
def Fresh (B0 B1 : Nat) (A : Option Addr) : Prop := ∀ b o, A = some ⟨b, o, none⟩ → b < B0 ∨ B1 ≤ b
theorem AR.same {W W' : World} {u : Vl} {R C : Nat} {us : List Vl} (h : AR W u R C us) (hs : W.heap.size ≤ W'.heap.size) (hb : ∀ b o, u.A = some ⟨b, o, none⟩ → b < W.heap.size → W'.heap[b]? = W.heap[b]?) : AR W' u R C us := by
  obtain ⟨A, n, cc, rfl, h2, h3⟩ := h.ex
  have hp : 0 < n := by rw [h2]; exact Nat.mul_pos h.r1 h.c1
  obtain ⟨b, o, rfl⟩ : ∃ b o, A = some ⟨b, o, none⟩ := by
    obtain ⟨A', c', e, -, -, h3⟩ := h3
    injection e with e1 e2 e3
    obtain ⟨b, o, e4, -⟩ := h3 (by omega)
    exact ⟨b, o, e1.trans e4⟩
  exact ⟨⟨_, n, cc, rfl, h2, reads_same h3 hs (hb b o rfl (h3.lt hp).2.1)⟩, h.r1, h.r2, h.c1, h.c2, h.big⟩
/-- The next argument; the world below. -/
theorem value_b (W0 W : World) (q : Nat) (A : Option Addr) (n c k : Nat) (avs : List Vl) (h0 : Below W0.heap.size W0 W) (hq0 : W0.heap.size ≤ q) (hq : Blk W q 90 #[.slice A n c, .int .i64 (k : Int)]) (hA : Reads 9 csV W0 (.slice A n c) avs) (hk : k < n) (hn : n ≤ 1000) : Calls Tryz.prog 39 #[.pointer (some ⟨q, 0, none⟩)] W fun e w' => e = .returned (avs[k]!.v) ∧ Blk w' q 90 #[.slice A n c, .int .i64 ((k : Int) + 1)] ∧ Below W0.heap.size W0 w' ∧ Chg W.heap.size [q] W w' := by
  have hne : ∀ b o, A = some ⟨b, o, none⟩ → b ≠ q := fun b o e => by
    subst e
    have := (hA.lt (by omega)).2.1
    omega
  exact (value_at q A n c k avs W hq (hA.below h0) hk hn hne).mono fun e w' ⟨h1, h2, h3⟩ => ⟨h1, h2, h0.trans (h3.below h0.size fun x hx => by rw [List.mem_singleton.1 hx]; exact hq0), h3⟩

end Go.Proofs.YtllhefjblipddaaGreatDoor

namespace Go.Proofs.YtllhefjblipddaaGreatDoor
open Go.RowKit








end Go.Proofs.YtllhefjblipddaaGreatDoor

namespace Go.Proofs.YtllhefjblipddaaGreatDoor
open Go.RowKit

theorem rec_idle (p : Addr) (w : World) : CallsD Tryz.prog 26 #[.pointer (some p)] .returning w fun e u' w' => e = .returned (.tuple #[]) ∧ u' = .returning ∧ w' = w := by
  refine callsD_of_wpS Tryz.func26 rfl fun c₀ cs hu => ?_
  apply wpS_seq
  apply wpS_region
  simp [wpOpsS, go_sem, recoverD, hu, Tryz.ntmps26, Exit.thenS]
  refine wpS_of_wp ?_
  rw [show (#[Value.pointer (some p)] ++ (Array.replicate 11 undef).setIfInBounds 3 Value.nilIface : Array Value) = #[.pointer (some p), undef, undef, undef, .nilIface, undef, undef, undef, undef, undef, undef, undef] from rfl]
  go_wp2_with fail
  cases c₀
  simp_all [bodyPostS, results, Tryz.results26]
end Go.Proofs.YtllhefjblipddaaGreatDoor

namespace Go.Proofs.YtllhefjblipddaaGreatDoor
open Go.RowKit

theorem trim_sa (s : ByteArray) (h : (⟨(Lib.trimS s.data.toList [115, 97]).toArray⟩ : ByteArray) = ⟨#[]⟩) (hs : s.size ≤ 100) (w : World) :
    Calls Tryz.prog 72 #[.string s, .string ⟨#[115, 97]⟩] w fun e w' => e = .returned (.string ⟨#[]⟩) ∧ Below w.heap.size w w' := by
  have := Any.strings_Trim_laid Tryz.lays160 (by kernel_rfl) s ⟨#[115, 97]⟩ w (by omega) (by decide) (ascii_of_all (by decide))
  rw [← h]
  exact this
end Go.Proofs.YtllhefjblipddaaGreatDoor

namespace Go.Proofs.YtllhefjblipddaaGreatDoor
open Go.RowKit

end Go.Proofs.YtllhefjblipddaaGreatDoor
