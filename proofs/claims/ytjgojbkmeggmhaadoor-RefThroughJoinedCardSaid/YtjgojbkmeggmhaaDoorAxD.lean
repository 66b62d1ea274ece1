/- axis: the reader. -/
import Derived.Test.YtjgojbkmeggmhaaDoorAxC
namespace Go.Proofs.YtjgojbkmeggmhaaDoor
open Go.RowKit

set_option maxRecDepth 100000 in
set_option maxHeartbeats 4000000 in
theorem kind_any (w : World) (p : Nat) (v : Value) (u : Int) (l : List Ax.Step) (hb : Blk w p 93 #[v, .int .i64 u]) (hv : Steps w v l) (hl : l.length ≤ 1000000000000) :
    Calls Tryd.prog 37 #[.pointer (some ⟨p, 0, none⟩)] w fun e w' => e = .returned (.int .i64 (Ax.kd l)) ∧ w = w' := by
  obtain ⟨x0, x1, f0, f1⟩ := hb.two
  clear hb
  cases l with
  | nil =>
    obtain ⟨A, c, rfl⟩ := hv.shape
    clear hv
    go_enter Tryd.func37, Tryd.ntmps37
    go_wp2_with fail
    go_ret
    exact ⟨rfl, rfl⟩
  | cons s t =>
    obtain ⟨k, n⟩ := s
    obtain ⟨A, c, rfl, hc, -, hr⟩ := hv
    obtain ⟨b, o, rfl, hlt, hcell⟩ := hr (by simp)
    have y0 : w.cell? ⟨b, o, none⟩ = some (.int .i64 k) := hcell 0 (by simp) 0 (by decide)
    clear hcell hr
    simp only [List.length_cons] at *
    go_enter Tryd.func37, Tryd.ntmps37
    go_wp2_with fail
    go_ret
    exact ⟨rfl, rfl⟩

set_option maxRecDepth 100000 in
set_option maxHeartbeats 4000000 in
theorem left_any (w : World) (p : Nat) (v : Value) (u k n : Int) (t : List Ax.Step) (hb : Blk w p 93 #[v, .int .i64 u]) (hv : Steps w v ((k, n) :: t)) (_hl : t.length ≤ 1000000000000) (h0 : 0 ≤ u) (h1 : u ≤ n) (h2 : n ≤ 1000000000000) :
    Calls Tryd.prog 39 #[.pointer (some ⟨p, 0, none⟩)] w fun e w' => e = .returned (.int .i64 (n - u)) ∧ Below w.heap.size w w' := by
  obtain ⟨x0, x1, f0, f1⟩ := hb.two
  clear hb
  obtain ⟨A, c, rfl, hc, -, hr⟩ := hv
  obtain ⟨b, o, rfl, hlt, hcell⟩ := hr (by simp)
  have y0 : w.cell? ⟨b, o, none⟩ = some (.int .i64 k) := hcell 0 (by simp) 0 (by decide)
  have y1 : w.cell? ⟨b, o + 1, none⟩ = some (.int .i64 n) := hcell 0 (by simp) 1 (by decide)
  clear hcell hr
  simp only [List.length_cons] at *
  go_enter Tryd.func39, Tryd.ntmps39
  go_upto_region 1 with (fail)
  go_quiet (fail)
  go_wp2_with fail
  go_ret
  exact ⟨rfl, below_drewN (Below.refl _ _) _⟩

theorem steps_tail {w : World} {b o c : Nat} {s : Ax.Step} {t : List Ax.Step} (h : Steps w (.slice (some ⟨b, o, none⟩) (t.length + 1) c) (s :: t)) :
    Steps w (.slice (some ⟨b, if c = 1 then o else o + 2, none⟩) t.length (c - 1)) t := by
  obtain ⟨A, c', e, hc, -, hr⟩ := h
  injection e with e1 _ e3
  subst e1 e3
  simp only [List.length_cons] at hc
  refine ⟨_, _, rfl, by omega, (fun h => by cases h), fun ht => ?_⟩
  obtain ⟨b', o', e4, hlt, hcell⟩ := hr (by simp)
  simp only [Option.some.injEq, Addr.mk.injEq, and_true] at e4
  obtain ⟨rfl, rfl⟩ := e4
  refine ⟨b, o + 2, by rw [if_neg (by omega)], hlt, fun i hi j hj => ?_⟩
  have := hcell (i + 1) (by simpa using hi) j hj
  rw [show o + ((i + 1) * 2 + j) = o + 2 + (i * 2 + j) by omega] at this
  exact this

set_option maxRecDepth 100000 in
set_option maxHeartbeats 4000000 in
theorem take_any (w0 w : World) (p : Nat) (v : Value) (u k n m : Int) (t : List Ax.Step) (hb : Blk w p 93 #[v, .int .i64 u]) (hv0 : Steps w0 v ((k, n) :: t)) (hbel : Below w0.heap.size w0 w) (hp : w0.heap.size ≤ p) (hl : t.length ≤ 1000000000000) (h0 : 0 ≤ u) (h1 : 0 ≤ m) (h2 : n ≤ 1000000000000) (h3 : u + m ≤ n) :
    Calls Tryd.prog 40 #[.pointer (some ⟨p, 0, none⟩), .int .i64 m] w fun e w' => e = .returned (.tuple #[]) ∧ Bx p w.heap.size w w' ∧
      ((u + m < n ∧ Blk w' p 93 #[v, .int .i64 (u + m)]) ∨ (u + m = n ∧ ∃ v', Blk w' p 93 #[v', .int .i64 0] ∧ Steps w0 v' t)) := by
  obtain ⟨x0, x1, f0, f1⟩ := hb.two
  have hb1 : Blk (w.setCell ⟨p, 1, none⟩ (.int .i64 (u + m))) p 93 #[v, .int .i64 (u + m)] := by
    have := hb.set_ 1 (.int .i64 (u + m))
    simpa using this
  have hv := hv0.below hbel
  obtain ⟨A, c, rfl, hc, -, hr⟩ := hv
  obtain ⟨b, o, rfl, hlt, hcell⟩ := hr (by simp)
  have hbp : b ≠ p := by
    obtain ⟨A, c', e, hc', -, hr'⟩ := hv0
    injection e with e1 _ _
    subst e1
    obtain ⟨b', o', e4, hlt', -⟩ := hr' (by simp)
    simp only [Option.some.injEq, Addr.mk.injEq, and_true] at e4
    obtain ⟨rfl, rfl⟩ := e4
    omega
  have far : ∀ i, (w.setCell ⟨p, 1, none⟩ (.int .i64 (u + m))).cell? ⟨b, i, none⟩ = w.cell? ⟨b, i, none⟩ := fun i => World.cell?_of_block (Below.heap_setCell _ _ _ _ hbp)
  have y0 : (w.setCell ⟨p, 1, none⟩ (.int .i64 (u + m))).cell? ⟨b, o, none⟩ = some (.int .i64 k) := (far _).trans (hcell 0 (by simp) 0 (by decide))
  have y1 : (w.setCell ⟨p, 1, none⟩ (.int .i64 (u + m))).cell? ⟨b, o + 1, none⟩ = some (.int .i64 n) := (far _).trans (hcell 0 (by simp) 1 (by decide))
  obtain ⟨z0, z1, q0, q1⟩ := hb1.two
  have HB1 := Lib.hid hb1
  have HV0 := Lib.hid hv0
  have HBX := Lib.hid ((Bx.refl p w.heap.size w).set 1 (.int .i64 (u + m)))
  clear hcell hr far hb hb1 hv0 hbp hbel
  simp only [List.length_cons] at *
  by_cases hum : u + m = n
  · have e1 : ((u + m : Int) == n) = true := by rw [beq_iff_eq]; exact hum
    have HUM := Lib.hid hum
    have HU0 := Lib.hid (show Steps w0 (.slice (some ⟨b, if c = 1 then o else o + 2, none⟩) t.length (c - 1)) t from steps_tail HV0.out)
    clear hum
    by_cases hc1 : c = 1
    · subst hc1
      have HU := Lib.hid (show Steps w0 (.slice (some ⟨b, o, none⟩) 0 0) t from by have := HU0.out; rwa [show t.length = 0 by omega] at this)
      clear HU0
      go_enter Tryd.func40, Tryd.ntmps40
      go_upto_region 1 with (fail)
      go_quiet (fail)
      go_wp2_with fail
      refine bodyPost_end (v := .tuple #[]) (by simp [results, Tryd.results40]) rfl ?_
      exact ⟨rfl, ((HBX.out.drewN _).set 0 _).set 1 _, .inr ⟨HUM.out, _, ((HB1.out.drewN _).two_set _ _).1, HU.out⟩⟩
    · have HU := Lib.hid (show Steps w0 (.slice (some ⟨b, o + 2, none⟩) t.length (c - 1)) t from by have := HU0.out; rwa [if_neg hc1] at this)
      clear HU0
      go_enter Tryd.func40, Tryd.ntmps40
      go_upto_region 1 with (fail)
      go_quiet (fail)
      go_wp2_with fail
      refine bodyPost_end (v := .tuple #[]) (by simp [results, Tryd.results40]) rfl ?_
      exact ⟨rfl, ((HBX.out.drewN _).set 0 _).set 1 _, .inr ⟨HUM.out, _, ((HB1.out.drewN _).two_set _ _).1, HU.out⟩⟩
  · have e1 : ((u + m : Int) == n) = false := by rw [beq_eq_false_iff_ne]; exact hum
    have HLT := Lib.hid (show u + m < n by omega)
    clear hum
    go_enter Tryd.func40, Tryd.ntmps40
    go_upto_region 1 with (fail)
    go_quiet (fail)
    go_wp2_with fail
    refine bodyPost_end (v := .tuple #[]) (by simp [results, Tryd.results40]) rfl ?_
    exact ⟨rfl, HBX.out.drewN _, .inl ⟨HLT.out, HB1.out.drewN _⟩⟩
end Go.Proofs.YtjgojbkmeggmhaaDoor
