/- axis: lengths; Join's state. -/
import Derived.Test.YtjgojbkmeggmhaaDoorAxD
namespace Go.Proofs.YtjgojbkmeggmhaaDoor
open Go.RowKit

namespace Ax
theorem bef_append (x y : List Step) : bef (x ++ y) = bef x + bef y := by
  induction x with
  | nil => simp [bef]
  | cons s t ih => obtain ⟨k, n⟩ := s; simp only [List.cons_append, bef, ih]; omega
theorem aft_append (x y : List Step) : aft (x ++ y) = aft x + aft y := by
  induction x with
  | nil => simp [aft]
  | cons s t ih => obtain ⟨k, n⟩ := s; simp only [List.cons_append, aft, ih]; omega
end Ax

set_option maxRecDepth 100000 in
set_option maxHeartbeats 4000000 in
theorem axis_lengths (w : World) (v : Value) (l : List Ax.Step) (hv : Steps w v l) (hl : l.length ≤ 1000000000000) (ho : ∀ s ∈ l, Ax.okS s) (hb : Ax.bef l ≤ 2147483647) (ha : Ax.aft l ≤ 2147483647) :
    Calls Tryd.prog 36 #[v] w fun e w' => e = .returned (.tuple #[.int .i64 (Ax.bef l), .int .i64 (Ax.aft l)]) ∧ Below w.heap.size w w' := by
  obtain ⟨A, c, rfl⟩ := hv.shape
  have HV := Lib.hid hv
  have HO := Lib.hid ho
  have HBB := Lib.hid hb
  have HAA := Lib.hid ha
  clear hv ho hb ha
  go_enter Tryd.func36, Tryd.ntmps36
  go_wp2_with fail
  go_loopw [4, 5, 10] (fun b a i wr => ∃ (k : Nat), k ≤ l.length ∧ i = .int .i64 k ∧ b = .int .i64 (Ax.bef (l.take k)) ∧ a = .int .i64 (Ax.aft (l.take k)) ∧ Below w.heap.size w wr) (fun _ _ i _ => l.length - (intOf i).toNat)
  case atStart => exact ⟨0, Nat.zero_le _, rfl, rfl, rfl, Below.refl _ _⟩
  case round =>
    obtain ⟨k, hk, rfl, rfl, rfl, hb⟩ := hrel
    have HB := Lib.hid hb
    clear hb
    by_cases hlt : k < l.length
    · obtain ⟨⟨q, n⟩, htk⟩ : ∃ x, x = l[k] := ⟨_, rfl⟩
      have hok := HO.out l[k] (List.getElem_mem hlt)
      rw [← htk] at hok
      obtain ⟨o1, o2, o3, o4⟩ := hok
      dsimp only at o1 o2 o3 o4
      have htake : l.take (k + 1) = l.take k ++ [(q, n)] := by rw [List.take_succ_eq_append_getElem hlt, ← htk]
      have ht1 : ∀ j, Ax.bef (l.take j) ≤ Ax.bef l ∧ Ax.aft (l.take j) ≤ Ax.aft l ∧ 0 ≤ Ax.bef (l.take j) ∧ 0 ≤ Ax.aft (l.take j) := fun j => by
        have e1 := Ax.bef_append (l.take j) (l.drop j)
        have e2 := Ax.aft_append (l.take j) (l.drop j)
        rw [List.take_append_drop] at e1 e2
        have n1 := Ax.bef_nonneg (l := l.drop j) fun s hs => HO.out s (List.mem_of_mem_drop hs)
        have n2 := Ax.aft_nonneg (l := l.drop j) fun s hs => HO.out s (List.mem_of_mem_drop hs)
        have n3 := Ax.bef_nonneg (l := l.take j) fun s hs => HO.out s (List.mem_of_mem_take hs)
        have n4 := Ax.aft_nonneg (l := l.take j) fun s hs => HO.out s (List.mem_of_mem_take hs)
        omega
      obtain ⟨t1, t2, t3, t4⟩ := ht1 k
      have s1 := HBB.out
      have s2 := HAA.out
      have EB := Lib.hid (show Ax.bef (l.take (k + 1)) = Ax.bef (l.take k) + (if q ≠ 1 then n else 0) from by rw [htake, Ax.bef_append]; simp [Ax.bef])
      have EA := Lib.hid (show Ax.aft (l.take (k + 1)) = Ax.aft (l.take k) + (if q ≠ 2 then n else 0) from by rw [htake, Ax.aft_append]; simp [Ax.aft])
      obtain ⟨A', c', e', hc', -, hrd⟩ := (HV.out.below HB.out)
      injection e' with e1 _ e3
      subst e1 e3
      obtain ⟨b, p, rfl, hblt, hcell⟩ := hrd (by omega)
      have g0 : wr.cell? ⟨b, p + k * 2, none⟩ = some (.int .i64 q) := by have := hcell k hlt 0 (by decide); rw [← htk] at this; exact this
      have g1 : wr.cell? ⟨b, p + k * 2 + 1, none⟩ = some (.int .i64 n) := by have := hcell k hlt 1 (by decide); rw [← htk] at this; exact this
      clear htk hcell hrd htake ht1
      generalize Ax.bef (l.take k) = x at *
      generalize Ax.aft (l.take k) = y at *
      rcases (show q = 0 ∨ q = 1 ∨ q = 2 by omega) with rfl | rfl | rfl
      · go_wp2_with fail
        exact ⟨⟨k + 1, by omega, by go_num, by rw [EB.out]; simp, by rw [EA.out]; simp, HB.out.alloc HB.out.size _⟩, by simp [intOf]; omega⟩
      · go_wp2_with fail
        exact ⟨⟨k + 1, by omega, by go_num, by rw [EB.out]; simp, by rw [EA.out]; simp, HB.out.alloc HB.out.size _⟩, by simp [intOf]; omega⟩
      · go_wp2_with fail
        exact ⟨⟨k + 1, by omega, by go_num, by rw [EB.out]; simp, by rw [EA.out]; simp, HB.out.alloc HB.out.size _⟩, by simp [intOf]; omega⟩
    · obtain rfl : k = l.length := by omega
      go_wp2_with fail
      go_ret2
      exact ⟨by rw [List.take_length]; rfl, HB.out⟩

set_option maxRecDepth 100000 in
set_option maxHeartbeats 4000000 in
theorem axis_Lengths (w : World) (v : Value) (l : List Ax.Step) (hv : Steps w v l) (hl : l.length ≤ 1000000000000) (hc : Ax.check l = 0) :
    Calls Tryd.prog 16 #[v] w fun e w' => e = .returned (.tuple #[.int .i64 (Ax.bef l), .int .i64 (Ax.aft l), .int .i64 0]) ∧ Below w.heap.size w w' := by
  obtain ⟨ho, -, hb, ha⟩ := Ax.ck_zero l _ _ _ hc
  have HC := Lib.hid (show Calls Tryd.prog 35 #[v] w fun e w' => e = .returned (.int .i64 0) ∧ Below w.heap.size w w' from by rw [← hc]; exact axis_check w v l hv hl)
  have HL := Lib.hid fun W (h : Below w.heap.size w W) => axis_lengths W v l (hv.below h) hl ho (by omega) (by omega)
  clear hv hc ho hb ha
  go_enter Tryd.func16, Tryd.ntmps16
  go_wp2_with (first
    | (go_at_call 35; refine HC.out.mono ?_; rintro e w1 ⟨rfl, hb⟩; have HB1 := Lib.hid hb; clear hb)
    | (go_at_call 36; refine (HL.out _ HB1.out).mono ?_; rintro e w2 ⟨rfl, hb⟩; have HB2 := Lib.hid (below_tr HB1.out hb); clear hb))
  go_ret3
  exact ⟨rfl, HB2.out⟩
end Go.Proofs.YtjgojbkmeggmhaaDoor
