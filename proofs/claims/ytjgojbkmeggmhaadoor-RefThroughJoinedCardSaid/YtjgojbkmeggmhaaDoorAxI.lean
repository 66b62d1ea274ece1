/- cellref.hull and its closure. -/
import Derived.Test.YtjgojbkmeggmhaaDoorAxE
namespace Go.Proofs.YtjgojbkmeggmhaaDoor
open Go.RowKit

theorem Blk.one {w : World} {g : Nat} {t : TypeId} {x : Value} (h : Blk w g t #[x]) : w.cell? ⟨g, 0, none⟩ = some x ∧ w.frozen? ⟨g, 0, none⟩ = false := ⟨h.cell 0, h.frozen 0⟩
theorem Blk.sng_set {w : World} {g : Nat} {t : TypeId} {x : Value} (h : Blk w g t #[x]) (y : Value) : Blk (w.setCell ⟨g, 0, none⟩ y) g t #[y] := by
  have := h.set_ 0 y
  simpa using this
def hfst : Option (Int × Int) → Int
  | none => 0
  | some u => u.1
def hsnd : Option (Int × Int) → Int
  | none => 0
  | some u => u.2
/-- hull's cells. -/
structure Hs (w0 w : World) (low high : Int) (acc : Option (Int × Int)) (old now : Int) : Prop where
  c0 : Blk w w0.heap.size 3 #[.int .i64 low]
  c1 : Blk w (w0.heap.size + 1) 3 #[.int .i64 high]
  c2 : Blk w (w0.heap.size + 2) 3 #[.int .i64 (hfst acc)]
  c3 : Blk w (w0.heap.size + 3) 3 #[.int .i64 (hsnd acc)]
  c4 : Blk w (w0.heap.size + 4) 4 #[.bool acc.isSome]
  c5 : Blk w (w0.heap.size + 5) 3 #[.int .i64 old]
  c6 : Blk w (w0.heap.size + 6) 3 #[.int .i64 now]
  bel : Below w0.heap.size w0 w
section
variable {w0 w : World} {low high old now : Int} {acc : Option (Int × Int)}
theorem Hs.drewN (h : Hs w0 w low high acc old now) (n : Nat) : Hs w0 (w.drewN n) low high acc old now :=
  ⟨h.c0.drewN n, h.c1.drewN n, h.c2.drewN n, h.c3.drewN n, h.c4.drewN n, h.c5.drewN n, h.c6.drewN n, below_drewN h.bel n⟩
theorem Hs.alloc (h : Hs w0 w low high acc old now) (o : Obj) : Hs w0 (w.alloc o) low high acc old now :=
  ⟨h.c0.alloc o, h.c1.alloc o, h.c2.alloc o, h.c3.alloc o, h.c4.alloc o, h.c5.alloc o, h.c6.alloc o, h.bel.alloc h.bel.size o⟩
theorem Hs.setOld (h : Hs w0 w low high acc old now) (x : Int) : Hs w0 (w.setCell ⟨w0.heap.size + 5, 0, none⟩ (.int .i64 x)) low high acc x now :=
  ⟨h.c0.far (by dsimp only; omega) _, h.c1.far (by dsimp only; omega) _, h.c2.far (by dsimp only; omega) _, h.c3.far (by dsimp only; omega) _, h.c4.far (by dsimp only; omega) _, h.c5.sng_set _, h.c6.far (by dsimp only; omega) _, h.bel.setCell (by dsimp only; omega) _⟩
theorem Hs.setNow (h : Hs w0 w low high acc old now) (x : Int) : Hs w0 (w.setCell ⟨w0.heap.size + 6, 0, none⟩ (.int .i64 x)) low high acc old x :=
  ⟨h.c0.far (by dsimp only; omega) _, h.c1.far (by dsimp only; omega) _, h.c2.far (by dsimp only; omega) _, h.c3.far (by dsimp only; omega) _, h.c4.far (by dsimp only; omega) _, h.c5.far (by dsimp only; omega) _, h.c6.sng_set _, h.bel.setCell (by dsimp only; omega) _⟩
theorem Hs.first (h : Hs w0 w low high none old now) (x y : Int) : Hs w0 (((w.setCell ⟨w0.heap.size + 2, 0, none⟩ (.int .i64 x)).setCell ⟨w0.heap.size + 4, 0, none⟩ (.bool true)).setCell ⟨w0.heap.size + 3, 0, none⟩ (.int .i64 y)) low high (some (x, y)) old now :=
  ⟨((h.c0.far (by dsimp only; omega) _).far (by dsimp only; omega) _).far (by dsimp only; omega) _, ((h.c1.far (by dsimp only; omega) _).far (by dsimp only; omega) _).far (by dsimp only; omega) _,
   ((h.c2.sng_set _).far (by dsimp only; omega) _).far (by dsimp only; omega) _, ((h.c3.far (by dsimp only; omega) _).far (by dsimp only; omega) _).sng_set _, ((h.c4.far (by dsimp only; omega) _).sng_set _).far (by dsimp only; omega) _,
   ((h.c5.far (by dsimp only; omega) _).far (by dsimp only; omega) _).far (by dsimp only; omega) _, ((h.c6.far (by dsimp only; omega) _).far (by dsimp only; omega) _).far (by dsimp only; omega) _,
   ((h.bel.setCell (by dsimp only; omega) _).setCell (by dsimp only; omega) _).setCell (by dsimp only; omega) _⟩
theorem Hs.next {u : Int × Int} (h : Hs w0 w low high (some u) old now) (y : Int) : Hs w0 (w.setCell ⟨w0.heap.size + 3, 0, none⟩ (.int .i64 y)) low high (some (u.1, y)) old now :=
  ⟨h.c0.far (by dsimp only; omega) _, h.c1.far (by dsimp only; omega) _, h.c2.far (by dsimp only; omega) _, h.c3.sng_set _, h.c4.far (by dsimp only; omega) _, h.c5.far (by dsimp only; omega) _, h.c6.far (by dsimp only; omega) _, h.bel.setCell (by dsimp only; omega) _⟩
end

set_option maxRecDepth 100000 in
set_option maxHeartbeats 4000000 in
theorem hull1_any (w0 w : World) (low high old now n : Int) (acc : Option (Int × Int)) (h : Hs w0 w low high acc old now) (hl : -1000000000000 ≤ low ∧ low ≤ 1000000000000) (hh : -1000000000000 ≤ high ∧ high ≤ 1000000000000) (ho : 0 ≤ old ∧ old ≤ 1000000000000) (hw : 0 ≤ now ∧ now ≤ 1000000000000) (hn : 1 ≤ n ∧ n ≤ 1000000000000) :
    Calls Tryd.prog 83 #[.int .i64 n, .pointer (some ⟨w0.heap.size, 0, none⟩), .pointer (some ⟨w0.heap.size + 5, 0, none⟩), .pointer (some ⟨w0.heap.size + 1, 0, none⟩), .pointer (some ⟨w0.heap.size + 4, 0, none⟩), .pointer (some ⟨w0.heap.size + 6, 0, none⟩), .pointer (some ⟨w0.heap.size + 2, 0, none⟩), .pointer (some ⟨w0.heap.size + 3, 0, none⟩)] w fun e w' =>
      e = .returned (.tuple #[]) ∧ Hs w0 w' low high (Ax.cmb acc (Ax.kp low high old now n)) old now ∧ ∀ g t cs, w0.heap.size + 7 ≤ g → Blk w g t cs → Blk w' g t cs := by
  obtain ⟨x0, f0⟩ := h.c0.one
  obtain ⟨x1, f1⟩ := h.c1.one
  obtain ⟨x2, f2⟩ := h.c2.one
  obtain ⟨x3, f3⟩ := h.c3.one
  obtain ⟨x4, f4⟩ := h.c4.one
  obtain ⟨x5, f5⟩ := h.c5.one
  obtain ⟨x6, f6⟩ := h.c6.one
  have H := Lib.hid h
  clear h
  obtain ⟨hl1, hl2⟩ := hl
  obtain ⟨hh1, hh2⟩ := hh
  obtain ⟨ho1, ho2⟩ := ho
  obtain ⟨hw1, hw2⟩ := hw
  obtain ⟨hn1, hn2⟩ := hn
  by_cases hp : max low old ≤ min high (old + n - 1)
  · have HK := Lib.hid (show Ax.kp low high old now n = some (now + max low old - old, now + min high (old + n - 1) - old) from by rw [Ax.kp, if_pos hp])
    cases acc with
    | none =>
      simp only [Option.isSome_none] at x4
      go_enter Tryd.func83, Tryd.ntmps83
      go_upto_region 0 with (fail)
      go_quiet (fail)
      go_wp2_with fail
      refine bodyPost_end (v := .tuple #[]) (by simp [results, Tryd.results83]) rfl ?_
      exact ⟨rfl, by rw [HK.out]; exact (H.out.drewN _).first _ _, fun g t cs hg hb => (((hb.drewN _).far (by dsimp only; omega) _).far (by dsimp only; omega) _).far (by dsimp only; omega) _⟩
    | some u =>
      simp only [Option.isSome_some] at x4
      go_enter Tryd.func83, Tryd.ntmps83
      go_upto_region 0 with (fail)
      go_quiet (fail)
      go_wp2_with fail
      refine bodyPost_end (v := .tuple #[]) (by simp [results, Tryd.results83]) rfl ?_
      exact ⟨rfl, by rw [HK.out]; exact (H.out.drewN _).next _, fun g t cs hg hb => (hb.drewN _).far (by dsimp only; omega) _⟩
  · have HK := Lib.hid (show Ax.cmb acc (Ax.kp low high old now n) = acc from by rw [Ax.kp, if_neg hp, Ax.cmb_none])
    go_enter Tryd.func83, Tryd.ntmps83
    go_upto_region 0 with (fail)
    go_quiet (fail)
    go_wp2_with fail
    refine bodyPost_end (v := .tuple #[]) (by simp [results, Tryd.results83]) rfl ?_
    exact ⟨rfl, by rw [HK.out]; exact H.out.drewN _, fun g t cs hg hb => hb.drewN _⟩
end Go.Proofs.YtjgojbkmeggmhaaDoor
