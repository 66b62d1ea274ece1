/- flook: a row; some rows of an array. -/
import Derived.Test.YtllhefjblipddaaGreatDoorGan
import Derived.Test.YtllhefjblipddaaGreatDoorPvW
import Derived.Test.YtllhefjblipddaaGreatDoorGal
import Derived.Test.YtllhefjblipddaaGreatDoorGah
import Derived.Test.YtllhefjblipddaaGreatDoorGam
set_option linter.unusedSimpArgs false
set_option linter.unusedVariables false
namespace Go.Proofs.YtllhefjblipddaaGreatDoor
open Go.RowKit

set_option maxRecDepth 100000 in
theorem row_a (R C n i x : Nat) (b o cc : Nat) (W : World) (hx : x = i * C) (hi : x + C ≤ n) (hc : n ≤ cc) (c1 : 1 ≤ C) (hb : n ≤ 100000) : Calls Tryz.prog 85 #[gV R C (some ⟨b, o, none⟩) n cc, .int .i64 (i : Int)] W fun e w' => e = .returned (.slice (some ⟨b, o + x * 9, none⟩) C (cc - x)) ∧ Below W.heap.size W w' := by
  have m1 : IntKind.i64.wrap ((i : Int) * (C : Int)) = (x : Int) := by
    have e : (i : Int) * (C : Int) = (x : Int) := by rw [hx, Int.natCast_mul]
    rw [e]
    exact IntWalk.i64_in _ (by omega)
  obtain ⟨y, hy⟩ : ∃ y, y = x + C := ⟨_, rfl⟩
  have hiC : i ≤ 100000 := by
    have := Nat.le_mul_of_pos_right i c1
    omega
  have i1 : IntKind.i64.wrap ((i : Int) + 1) = (i : Int) + 1 := IntWalk.i64_in _ (by omega)
  have m2 : IntKind.i64.wrap (((i : Int) + 1) * (C : Int)) = (y : Int) := by
    have e : ((i : Int) + 1) * (C : Int) = (y : Int) := by
      rw [hy, hx, Int.add_mul, Int.one_mul]
      simp
    rw [e]
    exact IntWalk.i64_in _ (by omega)
  have HY := Lib.hid hy
  have y1 : (y : Int).toNat = y := by omega
  have y2 : (x : Int).toNat = x := by omega
  have y3 : ¬ cc = x := by omega
  have y4 : (y : Int) ≤ (cc : Int) := by omega
  have y5 : (x : Int) ≤ max (y : Int) 0 := by omega
  have y6 : 0 ≤ (y : Int) := by omega
  have y7 : 0 ≤ (x : Int) := by omega
  have y8 : (x : Int) ≤ (y : Int) := by omega
  have y9 : x ≤ y := by omega
  have y10 : y ≤ cc := by omega
  have y11 : y - x = C := by omega
  clear hx hy hiC
  go_enter Tryz.func85, Tryz.ntmps85
  go_wp2_with fail
  go_ret
  exact ⟨rfl, below_al _ _⟩
/-- A part of a slice reads as that part of the list. -/
theorem reads_part {α : Type} {size : Nat} {f : α → List Value} {W : World} {b o n c : Nat} {l : List α} (h : Reads size f W (.slice (some ⟨b, o, none⟩) n c) l) (h0 : 0 < n) (k q c' : Nat) (hk : k + q ≤ n) (hc : q ≤ c') : Reads size f W (.slice (some ⟨b, o + k * size, none⟩) q c') ((l.drop k).take q) := by
  obtain ⟨hl, hb, hr⟩ := h.lt h0
  have hq : ((l.drop k).take q).length = q := by
    rw [List.length_take, List.length_drop]
    omega
  refine ⟨_, c', by rw [hq], by omega, (fun h => by cases h), fun _ => ⟨b, o + k * size, rfl, hb, fun i hi j hj => ?_⟩⟩
  have hi' : i < q := by rw [hq] at hi; exact hi
  have := hr (k + i) (by omega) j hj
  rw [Nat.add_mul] at this
  rw [List.getElem_take, List.getElem_drop, ← this, Nat.add_assoc o, Nat.add_assoc (k * size)]
theorem reads_cap {α : Type} {size : Nat} {f : α → List Value} {W : World} {A : Option Addr} {n c : Nat} {l : List α} (h : Reads size f W (.slice A n c) l) : n ≤ c := by
  obtain ⟨A', c', e, h1, -⟩ := h
  injection e with e1 e2 e3
  omega
end Go.Proofs.YtllhefjblipddaaGreatDoor

namespace Go.Proofs.YtllhefjblipddaaGreatDoor
open Go.RowKit

end Go.Proofs.YtllhefjblipddaaGreatDoor

namespace Go.Proofs.YtllhefjblipddaaGreatDoor
open Go.RowKit

/-- Nine cells of a block of the list are written. -/
theorem Loc.set9k {w W : World} {L : List (Nat × TypeId × Array Value)} {g : Nat} {t : TypeId} {x0 x1 x2 x3 x4 x5 x6 x7 x8 : Value} (h : Loc w ((g, t, #[x0, x1, x2, x3, x4, x5, x6, x7, x8]) :: L) W) (hne : ∀ x ∈ L, x.1 ≠ g) (y0 y1 y2 y3 y4 y5 y6 y7 y8 : Value) : Loc w ((g, t, #[y0, y1, y2, y3, y4, y5, y6, y7, y8]) :: L) (((((((((W.setCell ⟨g, 0, none⟩ y0).setCell ⟨g, 1, none⟩ y1).setCell ⟨g, 2, none⟩ y2).setCell ⟨g, 3, none⟩ y3).setCell ⟨g, 4, none⟩ y4).setCell ⟨g, 5, none⟩ y5).setCell ⟨g, 6, none⟩ y6).setCell ⟨g, 7, none⟩ y7).setCell ⟨g, 8, none⟩ y8) :=
  ⟨below_nine h.1 (h.2 _ (List.mem_cons_self ..)).1 y0 y1 y2 y3 y4 y5 y6 y7 y8, fun x hx => by
    rcases List.mem_cons.1 hx with rfl | hx
    · exact ⟨(h.2 _ (List.mem_cons_self ..)).1, ((h.2 _ (List.mem_cons_self ..)).2.nine_set y0 y1 y2 y3 y4 y5 y6 y7 y8).1⟩
    · have := h.2 x (List.mem_cons_of_mem _ hx)
      exact ⟨this.1, (((((((((this.2.far (hne x hx) y0).far (hne x hx) y1).far (hne x hx) y2).far (hne x hx) y3).far (hne x hx) y4).far (hne x hx) y5).far (hne x hx) y6).far (hne x hx) y7).far (hne x hx) y8)⟩⟩
theorem Loc.set2f {w W : World} {L : List (Nat × TypeId × Array Value)} {g : Nat} {t : TypeId} {x0 x1 : Value} (h : Loc w ((g, t, #[x0, x1]) :: L) W) (hne : ∀ x ∈ L, x.1 ≠ g) (y0 y1 : Value) : Loc w ((g, t, #[y0, y1]) :: L) ((W.setCell ⟨g, 0, none⟩ y0).setCell ⟨g, 1, none⟩ y1) :=
  ⟨below_two h.1 (h.2 _ (List.mem_cons_self ..)).1 y0 y1, fun x hx => by
    rcases List.mem_cons.1 hx with rfl | hx
    · exact ⟨(h.2 _ (List.mem_cons_self ..)).1, ((h.2 _ (List.mem_cons_self ..)).2.two_set y0 y1).1⟩
    · have := h.2 x (List.mem_cons_of_mem _ hx)
      exact ⟨this.1, (this.2.far (hne x hx) y0).far (hne x hx) y1⟩⟩
theorem loc_swap {w W : World} {x y : Nat × TypeId × Array Value} (h : Loc w [x, y] W) : Loc w [y, x] W := h.perm fun z hz => by
  simp only [List.mem_cons, List.not_mem_nil, or_false] at hz ⊢
  exact hz.symm
theorem one_ne {g h : Nat} {t : TypeId} {cs : Array Value} (hgh : g ≠ h) : ∀ x ∈ ([(g, t, cs)] : List (Nat × TypeId × Array Value)), x.1 ≠ h := fun x hx => by
  rw [List.mem_singleton.1 hx]
  exact hgh
set_option maxRecDepth 100000 in
set_option maxHeartbeats 4000000 in
theorem scalar_n (k : Nat) (W : World) (he : VEnv W) (hk : k ≤ 1000) : Calls Tryz.prog 128 #[(nV k).v] W fun e w' => e = .returned (nV k).v ∧ Below W.heap.size W w' := by
  have HV := Lib.hid (show ∀ W', Below W.heap.size W W' → Calls Tryz.prog 23 #[(nV k).v] W' fun e w' => e = .returned (nV k).v ∧ Below W'.heap.size W' w' from fun W' hW => valid_t (nV k) W' (he.below hW) (nV_ok k (by omega)) (Nat.le_trans (nt_size k (by omega)) (by decide)) (show (⟨#[49]⟩ : ByteArray).size ≤ 9223372036854775807 by decide) (show (⟨#[]⟩ : ByteArray).size ≤ 9223372036854775807 by decide))
  clear he hk
  unfold nV Vl.v Vl.cs at *
  dsimp only at *
  generalize nt k = t at *
  have HL0 := Lib.hid (((Loc.start W).alloc' rfl 27 #[.int .i64 1, .string t, .string ⟨#[49]⟩, .string ⟨#[]⟩, .bool false, .int .i64 0, .int .i64 0, .int .i64 0, .slice none 0 0]).alloc' (g := W.heap.size + 1) (by simp) 27 #[.int .i64 0, .string ⟨#[]⟩, .string ⟨#[]⟩, .string ⟨#[]⟩, .bool false, .int .i64 0, .int .i64 0, .int .i64 0, .slice none 0 0])
  go_enter Tryz.func128, Tryz.ntmps128
  go_upto_region 2 with (go_at_call 23; (with_reducible refine (HV.out _ HL0.out.bel).mono ?_); rintro e w2 ⟨rfl, hb⟩; have HL1 := Lib.hid (HL0.out.step hb); clear hb HL0; obtain ⟨f0, f1, f2, f3, f4, f5, f6, f7, f8⟩ := (HL1.out.blk (g := W.heap.size) (t := 27) (cs := #[.int .i64 1, .string t, .string ⟨#[49]⟩, .string ⟨#[]⟩, .bool false, .int .i64 0, .int .i64 0, .int .i64 0, .slice none 0 0]) (List.mem_cons_of_mem _ (List.mem_cons_self ..))).ninef; obtain ⟨z0, z1, z2, z3, z4, z5, z6, z7, z8⟩ := (HL1.out.blk (g := W.heap.size) (t := 27) (cs := #[.int .i64 1, .string t, .string ⟨#[49]⟩, .string ⟨#[]⟩, .bool false, .int .i64 0, .int .i64 0, .int .i64 0, .slice none 0 0]) (List.mem_cons_of_mem _ (List.mem_cons_self ..))).nine)
  clear f0 f1 f2 f3 f4 f5 f6 f7 f8 z0 z1 z2 z3 z4 z5 z6 z7 z8
  have HL2 := Lib.hid (loc_swap ((loc_swap HL1.out).set9k (one_ne (by omega)) (.int .i64 1) (.string t) (.string ⟨#[49]⟩) (.string ⟨#[]⟩) (.bool false) (.int .i64 0) (.int .i64 0) (.int .i64 0) (.slice none 0 0)))
  clear HL1
  revert HL2
  generalize (((((((((w2.setCell ⟨W.heap.size, 0, none⟩ (.int .i64 1)).setCell ⟨W.heap.size, 1, none⟩ (.string t)).setCell ⟨W.heap.size, 2, none⟩ (.string ⟨#[49]⟩)).setCell ⟨W.heap.size, 3, none⟩ (.string ⟨#[]⟩)).setCell ⟨W.heap.size, 4, none⟩ (.bool false)).setCell ⟨W.heap.size, 5, none⟩ (.int .i64 0)).setCell ⟨W.heap.size, 6, none⟩ (.int .i64 0)).setCell ⟨W.heap.size, 7, none⟩ (.int .i64 0)).setCell ⟨W.heap.size, 8, none⟩ (.slice none 0 0)) = w3
  intro HL2
  obtain ⟨k0, k1, k2, k3, k4, k5, k6, k7, k8⟩ := (HL2.out.blk (g := W.heap.size) (t := 27) (cs := #[.int .i64 1, .string t, .string ⟨#[49]⟩, .string ⟨#[]⟩, .bool false, .int .i64 0, .int .i64 0, .int .i64 0, .slice none 0 0]) (List.mem_cons_of_mem _ (List.mem_cons_self ..))).nine
  have HBW := Lib.hid (HL2.out.blk (g := W.heap.size + 1) (t := 27) (cs := #[.int .i64 0, .string ⟨#[]⟩, .string ⟨#[]⟩, .string ⟨#[]⟩, .bool false, .int .i64 0, .int .i64 0, .int .i64 0, .slice none 0 0]) (List.mem_cons_self ..))
  obtain ⟨f0, f1, f2, f3, f4, f5, f6, f7, f8⟩ := HBW.out.ninef
  obtain ⟨z0, z1, z2, z3, z4, z5, z6, z7, z8⟩ := HBW.out.nine
  go_upto_region 99 with fail
  clear k0 k1 k2 k3 k4 k5 k6 k7 k8 f0 f1 f2 f3 f4 f5 f6 f7 f8 z0 z1 z2 z3 z4 z5 z6 z7 z8
  obtain ⟨q0, q1, q2, q3, q4, q5, q6, q7, q8⟩ := (HBW.out.nine_set (.int .i64 1) (.string t) (.string ⟨#[49]⟩) (.string ⟨#[]⟩) (.bool false) (.int .i64 0) (.int .i64 0) (.int .i64 0) (.slice none 0 0)).1.nine
  refine bodyPost_ret (v := .agg #[.int .i64 1, .string t, .string ⟨#[49]⟩, .string ⟨#[]⟩, .bool false, .int .i64 0, .int .i64 0, .int .i64 0, .slice none 0 0]) (by simp [results, Tryz.results128, go_sem, q0, q1, q2, q3, q4, q5, q6, q7, q8]) rfl ⟨rfl, below_nine HL2.out.bel (by omega) _ _ _ _ _ _ _ _ _⟩
set_option maxRecDepth 100000 in
set_option maxHeartbeats 4000000 in
theorem tonum_n (k : Nat) (W : World) (he : VEnv W) (hk : k ≤ 1000) : Calls Tryz.prog 176 #[(nV k).v] W fun e w' => e = .returned (.tuple #[.agg #[.string (nt k), .string ⟨#[49]⟩], .int .i64 0]) ∧ Below W.heap.size W w' := by
  have HV := Lib.hid fun W' (hW : Below W.heap.size W W') => scalar_n k W' (he.below hW) hk
  clear he hk
  unfold nV Vl.v Vl.cs at *
  dsimp only at *
  generalize nt k = t at *
  have HL0 := Lib.hid (((Loc.start W).alloc' rfl 27 #[.int .i64 1, .string t, .string ⟨#[49]⟩, .string ⟨#[]⟩, .bool false, .int .i64 0, .int .i64 0, .int .i64 0, .slice none 0 0]).alloc' (g := W.heap.size + 1) (by simp) 24 #[.string ⟨#[]⟩, .string ⟨#[]⟩])
  go_enter Tryz.func176, Tryz.ntmps176
  go_upto_region 2 with (go_at_call 128; (with_reducible refine (HV.out _ HL0.out.bel).mono ?_); rintro e w2 ⟨rfl, hb⟩; have HL1 := Lib.hid (HL0.out.step hb); clear hb HL0; obtain ⟨f0, f1, f2, f3, f4, f5, f6, f7, f8⟩ := (HL1.out.blk (g := W.heap.size) (t := 27) (cs := #[.int .i64 1, .string t, .string ⟨#[49]⟩, .string ⟨#[]⟩, .bool false, .int .i64 0, .int .i64 0, .int .i64 0, .slice none 0 0]) (List.mem_cons_of_mem _ (List.mem_cons_self ..))).ninef; obtain ⟨z0, z1, z2, z3, z4, z5, z6, z7, z8⟩ := (HL1.out.blk (g := W.heap.size) (t := 27) (cs := #[.int .i64 1, .string t, .string ⟨#[49]⟩, .string ⟨#[]⟩, .bool false, .int .i64 0, .int .i64 0, .int .i64 0, .slice none 0 0]) (List.mem_cons_of_mem _ (List.mem_cons_self ..))).nine)
  clear f0 f1 f2 f3 f4 f5 f6 f7 f8 z0 z1 z2 z3 z4 z5 z6 z7 z8
  have HL2 := Lib.hid (loc_swap ((loc_swap HL1.out).set9k (one_ne (by omega)) (.int .i64 1) (.string t) (.string ⟨#[49]⟩) (.string ⟨#[]⟩) (.bool false) (.int .i64 0) (.int .i64 0) (.int .i64 0) (.slice none 0 0)))
  clear HL1
  revert HL2
  generalize (((((((((w2.setCell ⟨W.heap.size, 0, none⟩ (.int .i64 1)).setCell ⟨W.heap.size, 1, none⟩ (.string t)).setCell ⟨W.heap.size, 2, none⟩ (.string ⟨#[49]⟩)).setCell ⟨W.heap.size, 3, none⟩ (.string ⟨#[]⟩)).setCell ⟨W.heap.size, 4, none⟩ (.bool false)).setCell ⟨W.heap.size, 5, none⟩ (.int .i64 0)).setCell ⟨W.heap.size, 6, none⟩ (.int .i64 0)).setCell ⟨W.heap.size, 7, none⟩ (.int .i64 0)).setCell ⟨W.heap.size, 8, none⟩ (.slice none 0 0)) = w3
  intro HL2
  obtain ⟨k0, k1, k2, k3, k4, k5, k6, k7, k8⟩ := (HL2.out.blk (g := W.heap.size) (t := 27) (cs := #[.int .i64 1, .string t, .string ⟨#[49]⟩, .string ⟨#[]⟩, .bool false, .int .i64 0, .int .i64 0, .int .i64 0, .slice none 0 0]) (List.mem_cons_of_mem _ (List.mem_cons_self ..))).nine
  have HBW := Lib.hid (HL2.out.blk (g := W.heap.size + 1) (t := 24) (cs := #[.string ⟨#[]⟩, .string ⟨#[]⟩]) (List.mem_cons_self ..))
  obtain ⟨z0, z1, f0, f1⟩ := HBW.out.two
  go_upto_region 99 with fail
  clear k0 k1 k2 k3 k4 k5 k6 k7 k8 z0 z1 f0 f1
  obtain ⟨q0, q1, -, -⟩ := (HBW.out.two_set (.string t) (.string ⟨#[49]⟩)).1.two
  refine bodyPost_ret (v := .tuple #[.agg #[.string t, .string ⟨#[49]⟩], .int .i64 0]) (by simp [results, Tryz.results176, go_sem, q0, q1]) rfl ⟨rfl, below_two HL2.out.bel (by omega) _ _⟩
set_option maxRecDepth 100000 in
set_option maxHeartbeats 4000000 in
theorem down_n (k : Nat) (W : World) (he : VEnv W) (hk : k ≤ 1000) : Calls Tryz.prog 138 #[.agg #[.string (nt k), .string ⟨#[49]⟩]] W fun e w' => e = .returned (.int .i64 (k : Int)) ∧ Below W.heap.size W w' := by
  have HFL := Lib.hid (show ∀ W', Below W.heap.size W W' → Calls Tryz.prog 174 #[.agg #[.string (nt k), .string ⟨#[49]⟩]] W' fun e w' => QRet (k : Int) 1 40 W' e w' from fun W' hW => (floor_q (nt k) ⟨#[49]⟩ (k : Int) 1 40 W' (pv_qk k (by omega)) (by decide) (Lib.tabBelow_of_tabIs he.pw W' hW)).mono fun e w' ⟨f, h1, h2, h3⟩ => by
    obtain rfl : f = (k : Int) := by omega
    exact h1)
  have HIN := Lib.hid fun a1 a2 W' (h : Nt.Qk a1.data.toList a2.data.toList (k : Int) 1 40) => int_q a1 a2 k 40 W' (by omega) h
  have hk1 : ¬ (k : Int) < -1000000000 := by omega
  have hk2 : ¬ (1000000000 : Int) < (k : Int) := by omega
  clear he hk
  generalize nt k = t at *
  have HL0 := Lib.hid ((Loc.start W).alloc' rfl 24 #[.string t, .string ⟨#[49]⟩])
  go_enter Tryz.func138, Tryz.ntmps138
  go_upto_region 2 with (go_at_call 174; (with_reducible refine (HFL.out _ HL0.out.bel).mono ?_); rintro e w2 ⟨sn, sd, rfl, hq, hb⟩; have HQ := Lib.hid hq; have HL1 := Lib.hid (HL0.out.step hb); clear hb hq HL0; obtain ⟨z0, z1, f0, f1⟩ := (HL1.out.blk (g := W.heap.size) (t := 24) (cs := #[.string t, .string ⟨#[49]⟩]) (List.mem_cons_self ..)).two)
  clear z0 z1 f0 f1
  have HL2 := Lib.hid (HL1.out.set2f (fun x hx => by cases hx) (.string sn) (.string sd))
  clear HL1
  revert HL2
  generalize (w2.setCell ⟨W.heap.size, 0, none⟩ (.string sn)).setCell ⟨W.heap.size, 1, none⟩ (.string sd) = w3
  intro HL2
  obtain ⟨z0, z1, -, -⟩ := (HL2.out.blk (g := W.heap.size) (t := 24) (cs := #[.string sn, .string sd]) (List.mem_cons_self ..)).two
  go_wp2_with (go_at_call 175; (with_reducible refine (HIN.out _ _ _ HQ.out).mono ?_); rintro e w4 ⟨rfl, hb⟩; have HL3 := Lib.hid (HL2.out.step hb); clear hb HL2 z0 z1)
  go_ret
  exact ⟨rfl, HL3.out.bel⟩
set_option maxRecDepth 100000 in
set_option maxHeartbeats 4000000 in
theorem num_b (W0 W : World) (q : Nat) (A : Option Addr) (n c i k : Nat) (avs : List Vl) (h0 : Below W0.heap.size W0 W) (hq0 : W0.heap.size ≤ q) (hq : Blk W q 90 #[.slice A n c, .int .i64 (i : Int)]) (hA : Reads 9 csV W0 (.slice A n c) avs) (hi : i < n) (hn : n ≤ 1000) (hu : avs[i]! = nV k) (he : VEnv W0) (hk : k ≤ 1000) : Calls Tryz.prog 139 #[.pointer (some ⟨q, 0, none⟩)] W fun e w' => e = .returned (.agg #[.string (nt k), .string ⟨#[49]⟩]) ∧ Blk w' q 90 #[.slice A n c, .int .i64 ((i : Int) + 1)] ∧ Below W0.heap.size W0 w' ∧ Chg W.heap.size [q] W w' := by
  have HV := Lib.hid (value_b W0 (W.alloc (.cells #[.string ⟨#[]⟩, .string ⟨#[]⟩] 24)) q A n c i avs (h0.trans ((below_al W _).mono h0.size)) hq0 (hq.alloc _) hA hi hn)
  rw [hu] at HV
  have HTO := Lib.hid fun W' (hW : Below W0.heap.size W0 W') => tonum_n k W' (he.below hW) hk
  have hq' := hq.lt
  have HBZ := Lib.hid (Blk.new W 24 #[.string ⟨#[]⟩, .string ⟨#[]⟩])
  have hqn : W.heap.size ∉ [q] := by rw [List.mem_singleton]; omega
  have HQN := Lib.hid hqn
  have HS := Lib.hid h0.size
  clear h0 hq hA hu he hqn
  unfold nV Vl.v Vl.cs at *
  dsimp only at *
  generalize nt k = t at *
  go_enter Tryz.func139, Tryz.ntmps139
  go_upto_region 2 with (first
    | (go_at_call 39; (with_reducible refine HV.out.mono ?_); rintro e w1 ⟨rfl, hq1, hb, hc⟩; have HQ1 := Lib.hid hq1; have HB1 := Lib.hid hb; have HC1 := Lib.hid ((Chg.of (below_al W (.cells #[.string ⟨#[]⟩, .string ⟨#[]⟩] 24)) [q]).next hc); have HZ1 := Lib.hid (hc.blk HBZ.out HBZ.out.lt HQN.out); clear hq1 hb hc HBZ)
    | (go_at_call 176; (with_reducible refine (HTO.out _ HB1.out).mono ?_); rintro e w2 ⟨rfl, hb⟩; have HQ2 := Lib.hid (HQ1.out.later hb); have HB2 := Lib.hid (HB1.out.trans (hb.mono HB1.out.size)); have HC2 := Lib.hid (HC1.out.next (Chg.of hb [q])); have HZ2 := Lib.hid (HZ1.out.later hb); clear hb HQ1 HB1 HC1 HZ1))
  have HQ3 := Lib.hid (HQ2.out.alloc (.cells #[.string t, .string ⟨#[49]⟩] 24))
  have HB3 := Lib.hid (HB2.out.trans ((below_al w2 (.cells #[.string t, .string ⟨#[49]⟩] 24)).mono HB2.out.size))
  have HC3 := Lib.hid (HC2.out.next (Chg.of (below_al w2 (.cells #[.string t, .string ⟨#[49]⟩] 24)) [q]))
  have HZ3 := Lib.hid (HZ2.out.alloc (.cells #[.string t, .string ⟨#[49]⟩] 24))
  have HX3 := Lib.hid (Blk.new w2 24 #[.string t, .string ⟨#[49]⟩])
  have HXZ := Lib.hid (show w2.heap.size ≠ W.heap.size from by have := HZ2.out.lt; omega)
  clear HQ2 HB2 HC2 HZ2
  revert HQ3 HB3 HC3 HZ3 HX3 HXZ
  generalize w2.alloc (.cells #[.string t, .string ⟨#[49]⟩] 24) = w3
  generalize w2.heap.size = X
  intro HQ3 HB3 HC3 HZ3 HX3 HXZ
  obtain ⟨k0, k1, -, -⟩ := HX3.out.two
  obtain ⟨z0, z1, f0, f1⟩ := HZ3.out.two
  go_upto_region 99 with (go_at_call 96; (with_reducible refine (stop_0 _).mono ?_); rintro e wq ⟨rfl, rfl⟩)
  clear k0 k1 z0 z1 f0 f1
  obtain ⟨q0, q1, -, -⟩ := (HZ3.out.two_set (.string t) (.string ⟨#[49]⟩)).1.two
  have hqW : q ≠ W.heap.size := by omega
  have hS := HS.out
  refine bodyPost_ret (v := .agg #[.string t, .string ⟨#[49]⟩]) (by simp [results, Tryz.results139, go_sem, q0, q1]) rfl ⟨rfl, (HQ3.out.far (p := ⟨W.heap.size, 0, none⟩) (by exact hqW) (.string t)).far (p := ⟨W.heap.size, 1, none⟩) (by exact hqW) (.string ⟨#[49]⟩), below_two HB3.out (by exact hS) _ _, (HC3.out.set (p := ⟨W.heap.size, 0, none⟩) (.inr (Nat.le_refl _)) (.string t)).set (p := ⟨W.heap.size, 1, none⟩) (.inr (Nat.le_refl _)) (.string ⟨#[49]⟩)⟩
set_option maxRecDepth 100000 in
set_option maxHeartbeats 4000000 in
theorem whole_b (W0 W : World) (q : Nat) (A : Option Addr) (n c i k : Nat) (avs : List Vl) (h0 : Below W0.heap.size W0 W) (hq0 : W0.heap.size ≤ q) (hq : Blk W q 90 #[.slice A n c, .int .i64 (i : Int)]) (hA : Reads 9 csV W0 (.slice A n c) avs) (hi : i < n) (hn : n ≤ 1000) (hu : avs[i]! = nV k) (he : VEnv W0) (hk : k ≤ 1000) : Calls Tryz.prog 83 #[.pointer (some ⟨q, 0, none⟩)] W fun e w' => e = .returned (.int .i64 (k : Int)) ∧ Blk w' q 90 #[.slice A n c, .int .i64 ((i : Int) + 1)] ∧ Below W0.heap.size W0 w' ∧ Chg W.heap.size [q] W w' := by
  have HNB := Lib.hid (num_b W0 W q A n c i k avs h0 hq0 hq hA hi hn hu he hk)
  have HDN := Lib.hid fun W' (hW : Below W0.heap.size W0 W') => down_n k W' (he.below hW) hk
  clear h0 hq hA hu he
  generalize nt k = t at *
  go_enter Tryz.func83, Tryz.ntmps83
  go_wp2_with (first
    | (go_at_call 139; (with_reducible refine HNB.out.mono ?_); rintro e w1 ⟨rfl, hq1, hb, hc⟩; have HQ1 := Lib.hid hq1; have HB1 := Lib.hid hb; have HC1 := Lib.hid hc; clear hq1 hb hc)
    | (go_at_call 138; (with_reducible refine (HDN.out _ HB1.out).mono ?_); rintro e w2 ⟨rfl, hb⟩; have HQ2 := Lib.hid (HQ1.out.later hb); have HB2 := Lib.hid (HB1.out.trans (hb.mono HB1.out.size)); have HC2 := Lib.hid (HC1.out.next (Chg.of hb [q])); clear hb HQ1 HB1 HC1))
  go_ret
  exact ⟨rfl, HQ2.out, HB2.out, HC2.out⟩
theorem wor_0 (d : Int) (q : Nat) (A : Option Addr) (n c : Nat) (W : World) (hq : Blk W q 90 #[.slice A n c, .int .i64 (n : Int)]) : Calls Tryz.prog 77 #[.pointer (some ⟨q, 0, none⟩), .int .i64 d] W fun e w' => e = .returned (.int .i64 d) ∧ Below W.heap.size W w' := by
  have HM := Lib.hid (more_any q A n c n W hq false (by simp))
  go_enter Tryz.func77, Tryz.ntmps77
  go_wp2_with (go_at_call 82; (with_reducible refine HM.out.mono ?_); rintro e w1 ⟨rfl, hb⟩; have HB := Lib.hid hb; clear hb)
  go_ret
  exact ⟨rfl, HB.out⟩
end Go.Proofs.YtllhefjblipddaaGreatDoor

namespace Go.Proofs.YtllhefjblipddaaGreatDoor
open Go.RowKit

end Go.Proofs.YtllhefjblipddaaGreatDoor

namespace Go.Proofs.YtllhefjblipddaaGreatDoor
open Go.RowKit



end Go.Proofs.YtllhefjblipddaaGreatDoor

namespace Go.Proofs.YtllhefjblipddaaGreatDoor
open Go.RowKit

section
variable {ops : Array Oper} {rest : List Oper} {o : Oper} {a : Act} {Q : Exit → Act → World → Prop}
/-- Nothing is appended. -/
theorem app_none (w : World) (g x : Option Addr) (n c xc : Nat) (h : n ≤ c) : (Builtin.append_ #[25, 25] 25 #[.slice g n c, .slice x 0 xc]).run Tryz.prog w = .ok (.slice g n c) w := by
  obtain ⟨i0, hi, hz0, hz1, hz2⟩ := info_parts val_info
  have hl : ∀ (x : Addr), (loadCells x 0).run Tryz.prog w = .ok #[] w := fun x => by simpa using run_loadCells_list (P := Tryz.prog) w x [] (by simp)
  cases g <;> cases x <;> simp [Builtin.append_, run_underlying Tryz.underlying25, Builtin.lenOf, Builtin.firstCells, sizeOf, typeInfo, hi, storeCells, hl, h]
/-- The same at a list. -/
theorem wp_app0 {w : World} (hgd : o.guard = none) (s x : Operand) (ho : o.op = .call { callee := .builtin .append, args := #[s, x], argTypes := #[25, 25] }) (hty : o.type = 25) (g y : Option Addr) (n c xc : Nat) (hs : a.eval s = .slice g n c) (hx : a.eval x = .slice y 0 xc) (hn : n ≤ c) (h : wpList Tryz.prog ops Q rest (a.put o.dst (.slice g n c)) w) : wpList Tryz.prog ops Q (o :: rest) a w :=
  wpList_plain hgd fun _ hK => by
    unfold Oper.wp execOp
    simp only [ho, hty, resolve, invoke, builtin, Sem.run_bind, Sem.run_pure, Result.andThen_ok, List.map_toArray, List.map_cons, List.map_nil, hs, hx, app_none w g y n c xc hn]
    exact hK _ _ h
end
end Go.Proofs.YtllhefjblipddaaGreatDoor

namespace Go.Proofs.YtllhefjblipddaaGreatDoor
open Go.RowKit

end Go.Proofs.YtllhefjblipddaaGreatDoor

namespace Go.Proofs.YtllhefjblipddaaGreatDoor
open Go.RowKit

/-- An array of flook, its columns aside. -/
structure GA where
  r : Nat
  b : Nat
  o : Nat
  n : Nat
  cc : Nat
def gC (C : Nat) (x : GA) : List Value := [.int .i64 (x.r : Int), .int .i64 (C : Int), .slice (some ⟨x.b, x.o, none⟩) x.n x.cc]
/-- The arrays that are collected. -/
def GS (C q : Nat) (gr : Nat → Nat) (gx : Nat → List Vl) (w : World) (j : Nat) (gs : List GA) : Prop := gs.length = j ∧ ∀ i x, gs[i]? = some x → x.r = gr i ∧ x.n = gr i * C ∧ 1 ≤ gr i ∧ x.b ≠ q ∧ Reads 9 csV w (.slice (some ⟨x.b, x.o, none⟩) x.n x.cc) (gx i)
theorem reads_pos {W : World} {b o n c : Nat} {l : List Vl} (h : Reads 9 csV W (.slice (some ⟨b, o, none⟩) n c) l) (h0 : 0 < n) : b < W.heap.size := (h.lt h0).2.1
theorem GS.blk {C q : Nat} {gr : Nat → Nat} {gx : Nat → List Vl} {w : World} {j : Nat} {gs : List GA} (c1 : 1 ≤ C) (h : GS C q gr gx w j gs) : ∀ x ∈ gs, x.b < w.heap.size := fun x hx => by
  obtain ⟨i, hi, rfl⟩ := List.mem_iff_getElem.1 hx
  obtain ⟨-, h2, h3, -, h5⟩ := h.2 i _ (List.getElem?_eq_getElem hi)
  exact reads_pos h5 (by rw [h2]; exact Nat.mul_pos h3 c1)
theorem GS.chg {C q : Nat} {gr : Nat → Nat} {gx : Nat → List Vl} {w w' : World} {j : Nat} {gs : List GA} {B : Nat} {G : List Nat} (c1 : 1 ≤ C) (h : GS C q gr gx w j gs) (hc : Chg B G w w') (hs : ∀ x ∈ gs, x.b < B ∧ x.b ∉ G) : GS C q gr gx w' j gs :=
  ⟨h.1, fun i x hx => by
    obtain ⟨h1, h2, h3, h4, h5⟩ := h.2 i x hx
    have hm : x ∈ gs := List.mem_of_getElem? hx
    exact ⟨h1, h2, h3, h4, reads_same h5 hc.size (hc.block _ (hs x hm).1 (hs x hm).2)⟩⟩
theorem GS.snoc {C q : Nat} {gr : Nat → Nat} {gx : Nat → List Vl} {w : World} {j : Nat} {gs : List GA} (h : GS C q gr gx w j gs) (d : GA) (h1 : d.r = gr j) (h2 : d.n = gr j * C) (h3 : 1 ≤ gr j) (h4 : d.b ≠ q) (h5 : Reads 9 csV w (.slice (some ⟨d.b, d.o, none⟩) d.n d.cc) (gx j)) : GS C q gr gx w (j + 1) (gs ++ [d]) := by
  refine ⟨by rw [List.length_append, h.1]; rfl, fun i x hx => ?_⟩
  rcases Nat.lt_or_ge i gs.length with hi | hi
  · rw [List.getElem?_append_left hi] at hx
    exact h.2 i x hx
  · rw [List.getElem?_append_right hi] at hx
    have hi0 : i - gs.length = 0 := by
      rcases Nat.eq_zero_or_pos (i - gs.length) with h0 | h0
      · exact h0
      · rw [List.getElem?_eq_none (by simpa using (show 1 ≤ i - gs.length from h0))] at hx
        cases hx
    rw [hi0] at hx
    injection hx with hx
    obtain rfl : i = j := by have := h.1; omega
    subst hx
    exact ⟨h1, h2, h3, h4, h5⟩
/-- What the first loop keeps. -/
structure SI (W0 W : World) (q t : Nat) (A : Option Addr) (N c C : Nat) (gr : Nat → Nat) (gx : Nat → List Vl) (w : World) (j p : Nat) (v : Value) (gs : List GA) : Prop where
  row : RowOf 69 3 (gC C) w (t + 1) v gs
  own : ∀ k, v.ownBlock = some k → ∀ x ∈ gs, x.b ≠ k
  grs : GS C q gr gx w j gs
  blq : Blk w q 90 #[.slice A N c, .int .i64 (p : Int)]
  blt : Blk w t 27 #[.int .i64 0, .string ⟨#[]⟩, .string ⟨#[]⟩, .string ⟨#[]⟩, .bool false, .int .i64 0, .int .i64 0, .int .i64 0, .slice none 0 0]
  bel : Below W0.heap.size W0 w
  chg : Chg W.heap.size [q] W w
  siz : t + 1 ≤ w.heap.size
section
variable {W0 W : World} {q t : Nat} {A : Option Addr} {N c C : Nat} {gr : Nat → Nat} {gx : Nat → List Vl} {w w' : World} {j p : Nat} {v : Value} {gs : List GA}
theorem SI.later (h : SI W0 W q t A N c C gr gx w j p v gs) (c1 : 1 ≤ C) (hb : Below w.heap.size w w') : SI W0 W q t A N c C gr gx w' j p v gs :=
  ⟨RowOf.later h.row hb, h.own, h.grs.chg c1 (Chg.of hb []) (fun x hx => ⟨h.grs.blk c1 x hx, by simp⟩), h.blq.later hb, h.blt.later hb, h.bel.trans (hb.mono h.bel.size), h.chg.next (Chg.of hb [q]), Nat.le_trans h.siz hb.size⟩
theorem SI.value (h : SI W0 W q t A N c C gr gx w j p v gs) (c1 : 1 ≤ C) (hqt : q < t) (hq : Blk w' q 90 #[.slice A N c, .int .i64 ((p : Int) + 1)]) (hb : Below W0.heap.size W0 w') (hc : Chg w.heap.size [q] w w') : SI W0 W q t A N c C gr gx w' j (p + 1) v gs :=
  ⟨RowOf.chg h.row hc (fun g hg => ⟨(RowOf.lt h.row g hg).2, by have := (RowOf.lt h.row g hg).1; rw [List.mem_singleton]; omega⟩), h.own, h.grs.chg c1 hc (fun x hx => ⟨h.grs.blk c1 x hx, by
    obtain ⟨i, hi, rfl⟩ := List.mem_iff_getElem.1 hx
    rw [List.mem_singleton]
    exact (h.grs.2 i _ (List.getElem?_eq_getElem hi)).2.2.2.1⟩), by simpa using hq, hc.blk h.blt h.blt.lt (by rw [List.mem_singleton]; omega), hb, h.chg.next hc, Nat.le_trans h.siz hc.size⟩
end
section
variable {ops : Array Oper} {rest : List Oper} {o : Oper} {a : Act} {Q : Exit → Act → World → Prop}
end
end Go.Proofs.YtllhefjblipddaaGreatDoor

namespace Go.Proofs.YtllhefjblipddaaGreatDoor
open Go.RowKit

end Go.Proofs.YtllhefjblipddaaGreatDoor

namespace Go.Proofs.YtllhefjblipddaaGreatDoor
open Go.RowKit



end Go.Proofs.YtllhefjblipddaaGreatDoor

namespace Go.Proofs.YtllhefjblipddaaGreatDoor
open Go.RowKit

end Go.Proofs.YtllhefjblipddaaGreatDoor

namespace Go.Proofs.YtllhefjblipddaaGreatDoor
open Go.RowKit

end Go.Proofs.YtllhefjblipddaaGreatDoor

namespace Go.Proofs.YtllhefjblipddaaGreatDoor
open Go.RowKit

end Go.Proofs.YtllhefjblipddaaGreatDoor

namespace Go.Proofs.YtllhefjblipddaaGreatDoor
open Go.RowKit

/-- Items: valid values without items of their own. -/
def GoodI (us : List Vl) : Prop := ∀ u ∈ us, u.ok ∧ u.sz ∧ u.n = 0
theorem nV_good (k : Nat) (hk : k ≤ 1000) : (nV k).ok ∧ (nV k).sz ∧ (nV k).n = 0 := ⟨nV_ok k (by omega), ⟨by have := nt_size k (by omega); show (nt k).size ≤ _; omega, by show (⟨#[49]⟩ : ByteArray).size ≤ _; decide, by show (⟨#[]⟩ : ByteArray).size ≤ _; decide⟩, rfl⟩
theorem rowsL_mem (C f m : Nat) (us : List Vl) : ∀ u ∈ rowsL C f m us, u ∈ us := fun u hu => List.mem_of_mem_drop (List.mem_of_mem_take hu)
theorem GoodI.rows {us : List Vl} (h : GoodI us) (C f m : Nat) : GoodI (rowsL C f m us) := fun u hu => h u (rowsL_mem C f m us u hu)
theorem check_ar (W : World) (u : Vl) (R C : Nat) (us : List Vl) (he : VEnv W) (hu : AR W u R C us) (hg : GoodI us) : Calls Tryz.prog 71 #[u.v] W fun e w' => e = .returned (.int .i64 0) ∧ Below W.heap.size W w' := by
  have hl := hu.len
  have hb := hu.big
  have h1 := hu.r1
  have h2 := hu.r2
  have h3 := hu.c1
  have h4 := hu.c2
  obtain ⟨A, n, c, rfl, hn, hr⟩ := hu.ex
  refine check_ok (arrU R C A n c) W he us rfl (by simp [arrU, Vl.zB, Lib.toList_data, frSame]) ⟨by rw [hl, ← hn], fun u hu => (hg u hu).2.1, fun u hu => (hg u hu).1, ?_, ?_, ?_, ?_, ?_, ?_⟩ hr
  · show (1 : Int) ≤ (R : Int); omega
  · show (R : Int) ≤ 100000; omega
  · show (1 : Int) ≤ (C : Int); omega
  · show (C : Int) ≤ 100000; omega
  · show (R : Int) * (C : Int) ≤ 100000
    rw [← Int.natCast_mul]
    omega
  · show (us.length : Int) = (R : Int) * (C : Int)
    rw [hl, Int.natCast_mul]
theorem check_nv (W : World) (k : Nat) (he : VEnv W) (hk : k ≤ 1000) : Calls Tryz.prog 71 #[(nV k).v] W fun e w' => e = .returned (.int .i64 0) ∧ Below W.heap.size W w' :=
  check_t' (nV k) W he (nV_good k hk).1 (nV_good k hk).2.1.s1 (nV_good k hk).2.1.s2 (nV_good k hk).2.1.s3
set_option maxRecDepth 100000 in
set_option maxHeartbeats 1000000 in
theorem valid_ar (w : World) (u : Vl) (R C : Nat) (us : List Vl) (he : VEnv w) (hu : AR w u R C us) (hg : GoodI us) :
    Calls Tryz.prog 23 #[u.v] w fun e w' => e = .returned u.v ∧ Below w.heap.size w w' := by
  have HC := Lib.hid fun W (hW : Below w.heap.size w W) => check_ar W u R C us (he.below hW) (hu.below hW) hg
  obtain ⟨A, n, c, rfl, hn, -⟩ := hu.ex
  clear he hg hu hn
  show Calls Tryz.prog 23 #[.agg #[.int .i64 5, .string ⟨#[]⟩, .string ⟨#[]⟩, .string ⟨#[]⟩, .bool false, .int .i64 0, .int .i64 (R : Int), .int .i64 (C : Int), .slice A n c]] w fun e w' => e = .returned (.agg #[.int .i64 5, .string ⟨#[]⟩, .string ⟨#[]⟩, .string ⟨#[]⟩, .bool false, .int .i64 0, .int .i64 (R : Int), .int .i64 (C : Int), .slice A n c]) ∧ Below w.heap.size w w'
  have HC := Lib.hid (show ∀ W, Below w.heap.size w W → Calls Tryz.prog 71 #[.agg #[.int .i64 5, .string ⟨#[]⟩, .string ⟨#[]⟩, .string ⟨#[]⟩, .bool false, .int .i64 0, .int .i64 (R : Int), .int .i64 (C : Int), .slice A n c]] W fun e w' => e = .returned (.int .i64 0) ∧ Below W.heap.size W w' from HC.out)
  have HL0 := Lib.hid (((Loc.start w).alloc' rfl 27 #[.int .i64 5, .string ⟨#[]⟩, .string ⟨#[]⟩, .string ⟨#[]⟩, .bool false, .int .i64 0, .int .i64 (R : Int), .int .i64 (C : Int), .slice A n c]).alloc' (g := w.heap.size + 1) (by simp) 27 #[.int .i64 0, .string ⟨#[]⟩, .string ⟨#[]⟩, .string ⟨#[]⟩, .bool false, .int .i64 0, .int .i64 0, .int .i64 0, .slice none 0 0])
  go_enter Tryz.func23, Tryz.ntmps23
  go_upto_region 3 with (go_at_call 71; (with_reducible refine (HC.out _ HL0.out.bel).mono ?_); rintro e w1 ⟨rfl, hb⟩; have HL1 := Lib.hid (HL0.out.step hb); clear hb)
  obtain ⟨x0, x1, x2, x3, x4, x5, x6, x7, x8⟩ := (HL1.out.blk (g := w.heap.size) (t := 27) (cs := #[.int .i64 5, .string ⟨#[]⟩, .string ⟨#[]⟩, .string ⟨#[]⟩, .bool false, .int .i64 0, .int .i64 (R : Int), .int .i64 (C : Int), .slice A n c]) (by simp)).nine
  have bz := HL1.out.blk (g := w.heap.size + 1) (t := 27) (cs := #[.int .i64 0, .string ⟨#[]⟩, .string ⟨#[]⟩, .string ⟨#[]⟩, .bool false, .int .i64 0, .int .i64 0, .int .i64 0, .slice none 0 0]) (by simp)
  obtain ⟨z0, z1, z2, z3, z4, z5, z6, z7, z8⟩ := bz.nine
  obtain ⟨f0, f1, f2, f3, f4, f5, f6, f7, f8⟩ := bz.ninef
  have BS := Lib.hid (bz.nine_set (.int .i64 5) (.string ⟨#[]⟩) (.string ⟨#[]⟩) (.string ⟨#[]⟩) (.bool false) (.int .i64 0) (.int .i64 (R : Int)) (.int .i64 (C : Int)) (.slice A n c)).1
  clear bz
  go_wp2_with fail
  obtain ⟨q0, q1, q2, q3, q4, q5, q6, q7, q8⟩ := BS.out.nine
  refine bodyPost_ret (v := .agg #[.int .i64 5, .string ⟨#[]⟩, .string ⟨#[]⟩, .string ⟨#[]⟩, .bool false, .int .i64 0, .int .i64 (R : Int), .int .i64 (C : Int), .slice A n c]) (by simp [results, Tryz.results23, go_sem, q0, q1, q2, q3, q4, q5, q6, q7, q8]) rfl ⟨rfl, ?_⟩
  exact below_nine HL1.out.bel (by omega) _ _ _ _ _ _ _ _ _
theorem let_s0 (W : World) : Calls Tryz.prog 73 #[.string ⟨#[97, 115, 115]⟩, .int .i64 0] W fun e w' => e = .returned (.int .u8 97) ∧ W = w' := by
  go_enter Tryz.func73, Tryz.ntmps73
  go_wp2_with fail
  go_ret
  exact ⟨rfl, rfl⟩
theorem let_s1 (W : World) : Calls Tryz.prog 73 #[.string ⟨#[97, 115, 115]⟩, .int .i64 1] W fun e w' => e = .returned (.int .u8 115) ∧ W = w' := by
  go_enter Tryz.func73, Tryz.ntmps73
  go_wp2_with fail
  go_ret
  exact ⟨rfl, rfl⟩
end Go.Proofs.YtllhefjblipddaaGreatDoor

namespace Go.Proofs.YtllhefjblipddaaGreatDoor
open Go.RowKit









end Go.Proofs.YtllhefjblipddaaGreatDoor
