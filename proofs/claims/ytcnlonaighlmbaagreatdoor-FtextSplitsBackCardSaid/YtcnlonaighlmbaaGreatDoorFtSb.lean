/- formulas: arrays; true and false as arguments. -/
import Derived.Test.YtcnlonaighlmbaaGreatDoorFtSa
import Derived.Test.YtcnlonaighlmbaaGreatDoorFtH
import Derived.Test.YtcnlonaighlmbaaGreatDoorHae
import Derived.Test.YtcnlonaighlmbaaGreatDoorFtI
set_option linter.unusedSimpArgs false
set_option linter.unusedVariables false
namespace Go.Proofs.YtcnlonaighlmbaaGreatDoor
open Go.RowKit

/-- An array, as a value laid open. -/
abbrev arrU (R C : Nat) (A : Option Addr) (n cc : Nat) : Vl := ⟨5, ⟨#[]⟩, ⟨#[]⟩, ⟨#[]⟩, false, 0, (R : Int), (C : Int), A, n, cc⟩
/-- The value is an array of so many rows and columns, its items lie in memory. -/
structure AR (W : World) (u : Vl) (R C : Nat) (us : List Vl) : Prop where
  ex : ∃ A n cc, u = arrU R C A n cc ∧ n = R * C ∧ Reads 9 csV W (.slice A n cc) us
  r1 : 1 ≤ R
  r2 : R ≤ 100
  c1 : 1 ≤ C
  c2 : C ≤ 1000
  big : R * C ≤ 100000
theorem AR.below {W W' : World} {u : Vl} {R C : Nat} {us : List Vl} (h : AR W u R C us) (hb : Below W.heap.size W W') : AR W' u R C us := by
  obtain ⟨A, n, cc, h1, h2, h3⟩ := h.ex
  exact ⟨⟨A, n, cc, h1, h2, h3.below hb⟩, h.r1, h.r2, h.c1, h.c2, h.big⟩
theorem AR.len {W : World} {u : Vl} {R C : Nat} {us : List Vl} (h : AR W u R C us) : us.length = R * C := by
  obtain ⟨A, n, cc, h1, h2, h3⟩ := h.ex
  obtain ⟨A', c', e, -⟩ := h3
  injection e with e1 e2 e3
  omega
set_option maxRecDepth 100000 in
theorem list_a (r c : Int) (A : Option Addr) (n cc : Nat) (W : World) : Calls Tryz.prog 133 #[aV r c A n cc] W fun e w' => e = .returned (.slice A n cc) ∧ Below W.heap.size W w' := by
  go_enter Tryz.func133, Tryz.ntmps133
  go_wp2_with fail
  go_ret
  exact ⟨rfl, below_al _ _⟩
set_option maxRecDepth 100000 in
theorem tbl_a (r c : Int) (A : Option Addr) (n cc : Nat) (W : World) (h1 : 1 ≤ r) (h2 : r ≤ 100) (h3 : 1 ≤ c) (h4 : c ≤ 1000) : Calls Tryz.prog 134 #[.int .i64 r, .int .i64 c, .slice A n cc] W fun e w' => e = .returned (aV r c A n cc) ∧ Below W.heap.size W w' := by
  have HL0 := Lib.hid ((Loc.start W).alloc' rfl 26 #[.int .i64 0, .string ⟨#[]⟩, .string ⟨#[]⟩, .string ⟨#[]⟩, .bool false, .int .i64 0, .int .i64 0, .int .i64 0, .slice none 0 0])
  have d1 : ¬ r < 1 := by omega
  have d2 : ¬ c < 1 := by omega
  have d3 : ¬ (100000 : Int) < r := by omega
  have d4 : ¬ r = 0 := by omega
  obtain ⟨dd, hdd, d5⟩ : ∃ dd : Int, IntKind.i64.wrap ((100000 : Int).tdiv r) = dd ∧ ¬ dd < c := by
    have e2 : (100000 : Int).tdiv r = 100000 / r := Int.tdiv_eq_ediv_of_nonneg (by decide)
    have e3 : (1000 : Int) ≤ 100000 / r := by
      rw [Int.le_ediv_iff_mul_le (by omega)]
      omega
    have e4 : 100000 / r ≤ 100000 := Int.ediv_le_self _ (by decide)
    exact ⟨_, rfl, by rw [e2, IntWalk.i64_in _ (by omega)]; omega⟩
  go_enter Tryz.func134, Tryz.ntmps134
  obtain ⟨f0, f1, f2, f3, f4, f5, f6, f7, f8⟩ := (HL0.out.blk (g := W.heap.size) (t := 26) (cs := #[.int .i64 0, .string ⟨#[]⟩, .string ⟨#[]⟩, .string ⟨#[]⟩, .bool false, .int .i64 0, .int .i64 0, .int .i64 0, .slice none 0 0]) (by simp)).ninef
  go_upto_region 99 with fail
  clear f0 f1 f2 f3 f4 f5 f6 f7 f8 HL0
  obtain ⟨q0, q1, q2, q3, q4, q5, q6, q7, q8⟩ := (Blk.new W 26 #[.int .i64 5, .string ⟨#[]⟩, .string ⟨#[]⟩, .string ⟨#[]⟩, .bool false, .int .i64 0, .int .i64 r, .int .i64 c, .slice A n cc]).nine
  refine bodyPost_ret (v := aV r c A n cc) (by simp [results, Tryz.results134, go_sem, q0, q1, q2, q3, q4, q5, q6, q7, q8]) rfl ⟨rfl, below_al _ _⟩
/-- Items: valid values without items of their own. -/
def GoodI (us : List Vl) : Prop := ∀ u ∈ us, u.ok ∧ u.sz ∧ u.n = 0
theorem check_ar (W : World) (u : Vl) (R C : Nat) (us : List Vl) (he : VEnv W) (hu : AR W u R C us) (hg : GoodI us) : Calls Tryz.prog 28 #[u.v] W fun e w' => e = .returned (.int .i64 0) ∧ Below W.heap.size W w' := by
  have hl := hu.len
  have hb := hu.big
  have h1 := hu.r1
  have h2 := hu.r2
  have h3 := hu.c1
  have h4 := hu.c2
  obtain ⟨A, n, c, rfl, hn, hr⟩ := hu.ex
  refine check_ok (arrU R C A n c) W he us rfl (by simp [arrU, Vl.zB, Lib.toList_data, frSame]) ⟨by rw [hl, ← hn], fun u hu => (hg u hu).2.1, fun u hu => (hg u hu).1, ?_, ?_, ?_, ?_, ?_, ?_⟩ hr
  · show (1 : Int) ≤ (R : Int); omega
  · show (R : Int) ≤ 100000; omega
  · show (1 : Int) ≤ (C : Int); omega
  · show (C : Int) ≤ 100000; omega
  · show (R : Int) * (C : Int) ≤ 100000
    rw [← Int.natCast_mul]
    omega
  · show (us.length : Int) = (R : Int) * (C : Int)
    rw [hl, Int.natCast_mul]
set_option maxRecDepth 100000 in
set_option maxHeartbeats 1000000 in
theorem valid_ar (w : World) (u : Vl) (R C : Nat) (us : List Vl) (he : VEnv w) (hu : AR w u R C us) (hg : GoodI us) :
    Calls Tryz.prog 18 #[u.v] w fun e w' => e = .returned u.v ∧ Below w.heap.size w w' := by
  have HC := Lib.hid fun W (hW : Below w.heap.size w W) => check_ar W u R C us (he.below hW) (hu.below hW) hg
  obtain ⟨A, n, c, rfl, hn, -⟩ := hu.ex
  clear he hg hu hn
  show Calls Tryz.prog 18 #[.agg #[.int .i64 5, .string ⟨#[]⟩, .string ⟨#[]⟩, .string ⟨#[]⟩, .bool false, .int .i64 0, .int .i64 (R : Int), .int .i64 (C : Int), .slice A n c]] w fun e w' => e = .returned (.agg #[.int .i64 5, .string ⟨#[]⟩, .string ⟨#[]⟩, .string ⟨#[]⟩, .bool false, .int .i64 0, .int .i64 (R : Int), .int .i64 (C : Int), .slice A n c]) ∧ Below w.heap.size w w'
  have HC := Lib.hid (show ∀ W, Below w.heap.size w W → Calls Tryz.prog 28 #[.agg #[.int .i64 5, .string ⟨#[]⟩, .string ⟨#[]⟩, .string ⟨#[]⟩, .bool false, .int .i64 0, .int .i64 (R : Int), .int .i64 (C : Int), .slice A n c]] W fun e w' => e = .returned (.int .i64 0) ∧ Below W.heap.size W w' from HC.out)
  have HL0 := Lib.hid (((Loc.start w).alloc' rfl 26 #[.int .i64 5, .string ⟨#[]⟩, .string ⟨#[]⟩, .string ⟨#[]⟩, .bool false, .int .i64 0, .int .i64 (R : Int), .int .i64 (C : Int), .slice A n c]).alloc' (g := w.heap.size + 1) (by simp) 26 #[.int .i64 0, .string ⟨#[]⟩, .string ⟨#[]⟩, .string ⟨#[]⟩, .bool false, .int .i64 0, .int .i64 0, .int .i64 0, .slice none 0 0])
  go_enter Tryz.func18, Tryz.ntmps18
  go_upto_region 3 with (go_at_call 28; (with_reducible refine (HC.out _ HL0.out.bel).mono ?_); rintro e w1 ⟨rfl, hb⟩; have HL1 := Lib.hid (HL0.out.step hb); clear hb)
  obtain ⟨x0, x1, x2, x3, x4, x5, x6, x7, x8⟩ := (HL1.out.blk (g := w.heap.size) (t := 26) (cs := #[.int .i64 5, .string ⟨#[]⟩, .string ⟨#[]⟩, .string ⟨#[]⟩, .bool false, .int .i64 0, .int .i64 (R : Int), .int .i64 (C : Int), .slice A n c]) (by simp)).nine
  have bz := HL1.out.blk (g := w.heap.size + 1) (t := 26) (cs := #[.int .i64 0, .string ⟨#[]⟩, .string ⟨#[]⟩, .string ⟨#[]⟩, .bool false, .int .i64 0, .int .i64 0, .int .i64 0, .slice none 0 0]) (by simp)
  obtain ⟨z0, z1, z2, z3, z4, z5, z6, z7, z8⟩ := bz.nine
  obtain ⟨f0, f1, f2, f3, f4, f5, f6, f7, f8⟩ := bz.ninef
  have BS := Lib.hid (bz.nine_set (.int .i64 5) (.string ⟨#[]⟩) (.string ⟨#[]⟩) (.string ⟨#[]⟩) (.bool false) (.int .i64 0) (.int .i64 (R : Int)) (.int .i64 (C : Int)) (.slice A n c)).1
  clear bz
  go_wp2_with fail
  obtain ⟨q0, q1, q2, q3, q4, q5, q6, q7, q8⟩ := BS.out.nine
  refine bodyPost_ret (v := .agg #[.int .i64 5, .string ⟨#[]⟩, .string ⟨#[]⟩, .string ⟨#[]⟩, .bool false, .int .i64 0, .int .i64 (R : Int), .int .i64 (C : Int), .slice A n c]) (by simp [results, Tryz.results18, go_sem, q0, q1, q2, q3, q4, q5, q6, q7, q8]) rfl ⟨rfl, ?_⟩
  exact below_nine HL1.out.bel (by omega) _ _ _ _ _ _ _ _ _
set_option maxRecDepth 100000 in
set_option maxHeartbeats 4000000 in
theorem scalar_v (b : Bool) (W : World) (he : VEnv W) : Calls Tryz.prog 150 #[(bV b).v] W fun e w' => e = .returned (bV b).v ∧ Below W.heap.size W w' := by
  have HV := Lib.hid (show ∀ W', Below W.heap.size W W' → Calls Tryz.prog 18 #[(bV b).v] W' fun e w' => e = .returned (bV b).v ∧ Below W'.heap.size W' w' from fun W' hW => valid_t (bV b) W' (he.below hW) ((bV_sc b).ok) (show (⟨#[]⟩ : ByteArray).size ≤ 9223372036854775807 by decide) (show (⟨#[]⟩ : ByteArray).size ≤ 9223372036854775807 by decide) (show (⟨#[]⟩ : ByteArray).size ≤ 9223372036854775807 by decide))
  clear he
  unfold bV Vl.v Vl.cs at *
  dsimp only at *
  have HL0 := Lib.hid (((Loc.start W).alloc' rfl 26 #[.int .i64 3, .string ⟨#[]⟩, .string ⟨#[]⟩, .string ⟨#[]⟩, .bool b, .int .i64 0, .int .i64 0, .int .i64 0, .slice none 0 0]).alloc' (g := W.heap.size + 1) (by simp) 26 #[.int .i64 0, .string ⟨#[]⟩, .string ⟨#[]⟩, .string ⟨#[]⟩, .bool false, .int .i64 0, .int .i64 0, .int .i64 0, .slice none 0 0])
  go_enter Tryz.func150, Tryz.ntmps150
  go_upto_region 2 with (go_at_call 18; (with_reducible refine (HV.out _ HL0.out.bel).mono ?_); rintro e w2 ⟨rfl, hb⟩; have HL1 := Lib.hid (HL0.out.step hb); clear hb HL0; obtain ⟨f0, f1, f2, f3, f4, f5, f6, f7, f8⟩ := (HL1.out.blk (g := W.heap.size) (t := 26) (cs := #[.int .i64 3, .string ⟨#[]⟩, .string ⟨#[]⟩, .string ⟨#[]⟩, .bool b, .int .i64 0, .int .i64 0, .int .i64 0, .slice none 0 0]) (List.mem_cons_of_mem _ (List.mem_cons_self ..))).ninef; obtain ⟨z0, z1, z2, z3, z4, z5, z6, z7, z8⟩ := (HL1.out.blk (g := W.heap.size) (t := 26) (cs := #[.int .i64 3, .string ⟨#[]⟩, .string ⟨#[]⟩, .string ⟨#[]⟩, .bool b, .int .i64 0, .int .i64 0, .int .i64 0, .slice none 0 0]) (List.mem_cons_of_mem _ (List.mem_cons_self ..))).nine)
  clear f0 f1 f2 f3 f4 f5 f6 f7 f8 z0 z1 z2 z3 z4 z5 z6 z7 z8
  have HL2 := Lib.hid (loc_swap ((loc_swap HL1.out).set9k (one_ne (by omega)) (.int .i64 3) (.string ⟨#[]⟩) (.string ⟨#[]⟩) (.string ⟨#[]⟩) (.bool b) (.int .i64 0) (.int .i64 0) (.int .i64 0) (.slice none 0 0)))
  clear HL1
  revert HL2
  generalize (((((((((w2.setCell ⟨W.heap.size, 0, none⟩ (.int .i64 3)).setCell ⟨W.heap.size, 1, none⟩ (.string ⟨#[]⟩)).setCell ⟨W.heap.size, 2, none⟩ (.string ⟨#[]⟩)).setCell ⟨W.heap.size, 3, none⟩ (.string ⟨#[]⟩)).setCell ⟨W.heap.size, 4, none⟩ (.bool b)).setCell ⟨W.heap.size, 5, none⟩ (.int .i64 0)).setCell ⟨W.heap.size, 6, none⟩ (.int .i64 0)).setCell ⟨W.heap.size, 7, none⟩ (.int .i64 0)).setCell ⟨W.heap.size, 8, none⟩ (.slice none 0 0)) = w3
  intro HL2
  obtain ⟨k0, k1, k2, k3, k4, k5, k6, k7, k8⟩ := (HL2.out.blk (g := W.heap.size) (t := 26) (cs := #[.int .i64 3, .string ⟨#[]⟩, .string ⟨#[]⟩, .string ⟨#[]⟩, .bool b, .int .i64 0, .int .i64 0, .int .i64 0, .slice none 0 0]) (List.mem_cons_of_mem _ (List.mem_cons_self ..))).nine
  have HBW := Lib.hid (HL2.out.blk (g := W.heap.size + 1) (t := 26) (cs := #[.int .i64 0, .string ⟨#[]⟩, .string ⟨#[]⟩, .string ⟨#[]⟩, .bool false, .int .i64 0, .int .i64 0, .int .i64 0, .slice none 0 0]) (List.mem_cons_self ..))
  obtain ⟨f0, f1, f2, f3, f4, f5, f6, f7, f8⟩ := HBW.out.ninef
  obtain ⟨z0, z1, z2, z3, z4, z5, z6, z7, z8⟩ := HBW.out.nine
  go_upto_region 99 with fail
  clear k0 k1 k2 k3 k4 k5 k6 k7 k8 f0 f1 f2 f3 f4 f5 f6 f7 f8 z0 z1 z2 z3 z4 z5 z6 z7 z8
  obtain ⟨q0, q1, q2, q3, q4, q5, q6, q7, q8⟩ := (HBW.out.nine_set (.int .i64 3) (.string ⟨#[]⟩) (.string ⟨#[]⟩) (.string ⟨#[]⟩) (.bool b) (.int .i64 0) (.int .i64 0) (.int .i64 0) (.slice none 0 0)).1.nine
  refine bodyPost_ret (v := .agg #[.int .i64 3, .string ⟨#[]⟩, .string ⟨#[]⟩, .string ⟨#[]⟩, .bool b, .int .i64 0, .int .i64 0, .int .i64 0, .slice none 0 0]) (by simp [results, Tryz.results150, go_sem, q0, q1, q2, q3, q4, q5, q6, q7, q8]) rfl ⟨rfl, below_nine HL2.out.bel (by omega) _ _ _ _ _ _ _ _ _⟩
end Go.Proofs.YtcnlonaighlmbaaGreatDoor

namespace Go.Proofs.YtcnlonaighlmbaaGreatDoor
open Go.RowKit

set_option maxRecDepth 100000 in
set_option maxHeartbeats 4000000 in
theorem tobool_v (b : Bool) (W : World) (he : VEnv W) : Calls Tryz.prog 162 #[(bV b).v] W fun e w' => e = .returned (.tuple #[.bool b, .int .i64 0]) ∧ Below W.heap.size W w' := by
  have HV := Lib.hid fun W' (hW : Below W.heap.size W W') => scalar_v b W' (he.below hW)
  clear he
  unfold bV Vl.v Vl.cs at *
  dsimp only at *
  have HL0 := Lib.hid ((Loc.start W).alloc' rfl 26 #[.int .i64 3, .string ⟨#[]⟩, .string ⟨#[]⟩, .string ⟨#[]⟩, .bool b, .int .i64 0, .int .i64 0, .int .i64 0, .slice none 0 0])
  go_enter Tryz.func162, Tryz.ntmps162
  go_upto_region 2 with (go_at_call 150; (with_reducible refine (HV.out _ HL0.out.bel).mono ?_); rintro e w2 ⟨rfl, hb⟩; have HL1 := Lib.hid (HL0.out.step hb); clear hb HL0; obtain ⟨f0, f1, f2, f3, f4, f5, f6, f7, f8⟩ := (HL1.out.blk (g := W.heap.size) (t := 26) (cs := #[.int .i64 3, .string ⟨#[]⟩, .string ⟨#[]⟩, .string ⟨#[]⟩, .bool b, .int .i64 0, .int .i64 0, .int .i64 0, .slice none 0 0]) (List.mem_cons_self ..)).ninef; obtain ⟨z0, z1, z2, z3, z4, z5, z6, z7, z8⟩ := (HL1.out.blk (g := W.heap.size) (t := 26) (cs := #[.int .i64 3, .string ⟨#[]⟩, .string ⟨#[]⟩, .string ⟨#[]⟩, .bool b, .int .i64 0, .int .i64 0, .int .i64 0, .slice none 0 0]) (List.mem_cons_self ..)).nine)
  clear f0 f1 f2 f3 f4 f5 f6 f7 f8 z0 z1 z2 z3 z4 z5 z6 z7 z8
  have HL2 := Lib.hid (HL1.out.set9k (fun x hx => by cases hx) (.int .i64 3) (.string ⟨#[]⟩) (.string ⟨#[]⟩) (.string ⟨#[]⟩) (.bool b) (.int .i64 0) (.int .i64 0) (.int .i64 0) (.slice none 0 0))
  clear HL1
  revert HL2
  generalize ((((((((w2.setCell ⟨W.heap.size, 0, none⟩ (.int .i64 3)).setCell ⟨W.heap.size, 1, none⟩ (.string ⟨#[]⟩)).setCell ⟨W.heap.size, 2, none⟩ (.string ⟨#[]⟩)).setCell ⟨W.heap.size, 3, none⟩ (.string ⟨#[]⟩)).setCell ⟨W.heap.size, 4, none⟩ (.bool b)).setCell ⟨W.heap.size, 5, none⟩ (.int .i64 0)).setCell ⟨W.heap.size, 6, none⟩ (.int .i64 0)).setCell ⟨W.heap.size, 7, none⟩ (.int .i64 0)).setCell ⟨W.heap.size, 8, none⟩ (.slice none 0 0) = w3
  intro HL2
  obtain ⟨k0, k1, k2, k3, k4, k5, k6, k7, k8⟩ := (HL2.out.blk (g := W.heap.size) (t := 26) (cs := #[.int .i64 3, .string ⟨#[]⟩, .string ⟨#[]⟩, .string ⟨#[]⟩, .bool b, .int .i64 0, .int .i64 0, .int .i64 0, .slice none 0 0]) (List.mem_cons_self ..)).nine
  go_wp2_with fail
  refine bodyPost_ret (v := .tuple #[.bool b, .int .i64 0]) (by simp [results, Tryz.results162, go_sem]) rfl ⟨rfl, HL2.out.bel⟩
set_option maxRecDepth 100000 in
set_option maxHeartbeats 4000000 in
/-- The next argument as a truth value. -/
theorem flag_b (W0 W : World) (q : Nat) (A : Option Addr) (n c i : Nat) (b : Bool) (avs : List Vl) (h0 : Below W0.heap.size W0 W) (hq0 : W0.heap.size ≤ q) (hq : Blk W q 120 #[.slice A n c, .int .i64 (i : Int)]) (hA : Reads 9 csV W0 (.slice A n c) avs) (hi : i < n) (hn : n ≤ 1000) (hu : avs[i]! = bV b) (he : VEnv W0) : Calls Tryz.prog 124 #[.pointer (some ⟨q, 0, none⟩), .bool false] W fun e w' => e = .returned (.bool b) ∧ Blk w' q 120 #[.slice A n c, .int .i64 ((i : Int) + 1)] ∧ Below W0.heap.size W0 w' ∧ Chg W.heap.size [q] W w' := by
  have HM := Lib.hid (more_any q A n c i W hq true (by simp [hi]))
  have HV := Lib.hid (show ∀ W', Below W.heap.size W W' → Calls Tryz.prog 107 #[.pointer (some ⟨q, 0, none⟩)] W' fun e w' => e = .returned (bV b).v ∧ Blk w' q 120 #[.slice A n c, .int .i64 ((i : Int) + 1)] ∧ Below W0.heap.size W0 w' ∧ Chg W'.heap.size [q] W' w' from fun W' hb => by
    rw [← hu]
    exact value_b W0 W' q A n c i avs (h0.trans (hb.mono h0.size)) hq0 (hq.later hb) hA hi hn)
  have HTO := Lib.hid fun W' (hW : Below W0.heap.size W0 W') => tobool_v b W' (he.below hW)
  clear h0 hq hA hu he
  unfold bV Vl.v Vl.cs at *
  dsimp only at *
  go_enter Tryz.func124, Tryz.ntmps124
  go_wp2_with (first
    | (go_at_call 119; (with_reducible refine HM.out.mono ?_); rintro e w0 ⟨rfl, hb⟩; have HB0 := Lib.hid hb; clear hb)
    | (go_at_call 107; (with_reducible refine (HV.out _ HB0.out).mono ?_); rintro e w1 ⟨rfl, hq1, hb, hc⟩; have HQ1 := Lib.hid hq1; have HB1 := Lib.hid hb; have HC1 := Lib.hid ((Chg.of HB0.out [q]).next hc); clear hq1 hb hc)
    | (go_at_call 162; (with_reducible refine (HTO.out _ HB1.out).mono ?_); rintro e w2 ⟨rfl, hb⟩; have HQ2 := Lib.hid (HQ1.out.later hb); have HB2 := Lib.hid (HB1.out.trans (hb.mono HB1.out.size)); have HC2 := Lib.hid (HC1.out.next (Chg.of hb [q])); clear hb HQ1 HB1 HC1)
    | (go_at_call 108; (with_reducible refine (stop_0 _).mono ?_); rintro e w3 ⟨rfl, rfl⟩))
  go_ret
  exact ⟨rfl, HQ2.out, HB2.out, HC2.out⟩
theorem let_j0 (W : World) : Calls Tryz.prog 103 #[.string ⟨#[115, 115, 97]⟩, .int .i64 0] W fun e w' => e = .returned (.int .u8 115) ∧ W = w' := by
  go_enter Tryz.func103, Tryz.ntmps103
  go_wp2
  go_ret
  exact ⟨rfl, rfl⟩
theorem let_j1 (W : World) : Calls Tryz.prog 103 #[.string ⟨#[115, 115, 97]⟩, .int .i64 1] W fun e w' => e = .returned (.int .u8 115) ∧ W = w' := by
  go_enter Tryz.func103, Tryz.ntmps103
  go_wp2
  go_ret
  exact ⟨rfl, rfl⟩
theorem let_j2 (W : World) : Calls Tryz.prog 103 #[.string ⟨#[115, 115, 97]⟩, .int .i64 2] W fun e w' => e = .returned (.int .u8 97) ∧ W = w' := by
  go_enter Tryz.func103, Tryz.ntmps103
  go_wp2
  go_ret
  exact ⟨rfl, rfl⟩
set_option maxRecDepth 100000 in
set_option maxHeartbeats 8000000 in
/-- TEXTJOIN of an array of texts. -/
theorem fTj_any (W0 W : World) (q : Nat) (A : Option Addr) (c : Nat) (sep : ByteArray) (u : Vl) (C : Nat) (tL : List ByteArray) (hsep : txtE sep = 0) (hu : AR W0 u 1 C (tL.map tV)) (hT : ∀ t ∈ tL, txtE t = 0) (s : ByteArray) (hs : jnT tL sep = s) (hok : txtE s = 0) (he : VEnv W0) (h0 : Below W0.heap.size W0 W) (hq0 : W0.heap.size ≤ q) (hq : Blk W q 120 #[.slice A 3 c, .int .i64 0]) (hA : Reads 9 csV W0 (.slice A 3 c) [tV sep, bV false, u]) :
    Calls Tryz.prog 82 #[.pointer (some ⟨q, 0, none⟩)] W (ResV (tV s) q W) := by
  have hlen : tL.length = C := by
    have h := hu.len
    rw [List.length_map] at h
    omega
  have hC := hu.c2
  have hC1 := hu.c1
  have HT0 := Lib.hid (show ∀ W', Below W0.heap.size W0 W' → Blk W' q 120 #[.slice A 3 c, .int .i64 ((0 : Nat) : Int)] → Calls Tryz.prog 53 #[.pointer (some ⟨q, 0, none⟩)] W' fun e w' => e = .returned (.string sep) ∧ Blk w' q 120 #[.slice A 3 c, .int .i64 ((1 : Nat) : Int)] ∧ Below W0.heap.size W0 w' ∧ Chg W'.heap.size [q] W' w' from fun W' h1 h2 => text_b W0 W' q A 3 c 0 sep [tV sep, bV false, u] h1 hq0 h2 hA (by decide) (by decide) rfl he hsep)
  have HT1 := Lib.hid (show ∀ W', Below W0.heap.size W0 W' → Blk W' q 120 #[.slice A 3 c, .int .i64 ((1 : Nat) : Int)] → Calls Tryz.prog 124 #[.pointer (some ⟨q, 0, none⟩), .bool false] W' fun e w' => e = .returned (.bool false) ∧ Blk w' q 120 #[.slice A 3 c, .int .i64 ((2 : Nat) : Int)] ∧ Below W0.heap.size W0 w' ∧ Chg W'.heap.size [q] W' w' from fun W' h1 h2 => flag_b W0 W' q A 3 c 1 false [tV sep, bV false, u] h1 hq0 h2 hA (by decide) (by decide) rfl he)
  have HTS := Lib.hid (show ∀ W', Below W0.heap.size W0 W' → Blk W' q 120 #[.slice A 3 c, .int .i64 ((2 : Nat) : Int)] → Calls Tryz.prog 80 #[.pointer (some ⟨q, 0, none⟩)] W' fun e w' => ∃ g cp, e = .returned (.slice (some ⟨g, 0, none⟩) C cp) ∧ Reads 1 sC w' (.slice (some ⟨g, 0, none⟩) C cp) tL ∧ Below W0.heap.size W0 w' ∧ Chg W'.heap.size [q] W' w' from fun W' h1 h2 => by
    have h := texts_any W0 W' q A 3 c 2 [tV sep, bV false, u] (fun _ => tL) h1 hq0 h2 hA (by decide) (by decide) he (fun i i1 i2 W2 hW2 => by
      obtain rfl : i = 2 := by omega
      obtain ⟨A1, n1, c1, rfl, hn1, hr⟩ := hu.ex
      exact (list_a ((1 : Nat) : Int) (C : Int) A1 n1 c1 W2).mono fun e w' ⟨g1, g2⟩ => ⟨A1, n1, c1, g1, hr.below (hW2.trans (g2.mono hW2.size)), g2, fun b o e => .inl (by
        subst e
        exact (hr.lt (by rw [hn1, Nat.one_mul]; omega)).2.1)⟩) (fun i _ _ t ht => hT t ht) (fun i _ _ => by omega)
    rw [show catT (fun _ => tL) 2 (3 - 2) = tL from by simp [catT]] at h
    exact h.mono fun e w' ⟨v, g1, g2, g3, g4, g5⟩ => by
      obtain ⟨g, cp, rfl, -, -⟩ := g2.form (by omega)
      rw [hlen] at g1
      have g6 := g2.reads fun x => (sC_one x).1
      rw [hlen] at g6
      exact ⟨g, cp, g1, g6, g4, g5⟩)
  have hsz := txtE_size hok
  have HJ := Lib.hid (show ∀ W' base v, RowOf 9 1 sC W' base v tL → Calls Tryz.prog 79 #[v, .string sep] W' fun e w' => e = .returned (.string s) ∧ Below W'.heap.size W' w' from fun W' base v ho => by
    rw [← hs]
    refine join_row tL sep base v W' ho (by omega) (by omega) ?_
    rw [← hs] at hsz
    have : (jnT tL sep).size = (Lib.join (tL.map (·.data.toList)) sep.data.toList).length := by simp [jnT, ByteArray.size]
    omega)
  have HTX := Lib.hid (show ∀ W', Below W0.heap.size W0 W' → Calls Tryz.prog 7 #[.string s] W' fun e w' => e = .returned (.agg #[.int .i64 2, .string ⟨#[]⟩, .string ⟨#[]⟩, .string s, .bool false, .int .i64 0, .int .i64 0, .int .i64 0, .slice none 0 0]) ∧ Below W'.heap.size W' w' from fun W' h1 => text_t s W' (he.below h1) hok (Nat.le_trans hsz (by decide)))
  have HSZ0 := Lib.hid h0.size
  have hql := hq.lt
  obtain ⟨r, hr⟩ : ∃ r, r = W.heap.size := ⟨_, rfl⟩
  have HR0 := Lib.hid (Blk.new W 26 #[.int .i64 0, .string ⟨#[]⟩, .string ⟨#[]⟩, .string ⟨#[]⟩, .bool false, .int .i64 0, .int .i64 0, .int .i64 0, .slice none 0 0])
  rw [← hr] at HR0
  have HTQ := Lib.hid (show r ∉ [q] from by rw [List.mem_singleton]; omega)
  have HQ0 := Lib.hid (show Blk (W.alloc (.cells #[.int .i64 0, .string ⟨#[]⟩, .string ⟨#[]⟩, .string ⟨#[]⟩, .bool false, .int .i64 0, .int .i64 0, .int .i64 0, .slice none 0 0] 26)) q 120 #[.slice A 3 c, .int .i64 ((0 : Nat) : Int)] from hq.alloc _)
  have HB0 := Lib.hid (h0.trans ((below_al W (.cells #[.int .i64 0, .string ⟨#[]⟩, .string ⟨#[]⟩, .string ⟨#[]⟩, .bool false, .int .i64 0, .int .i64 0, .int .i64 0, .slice none 0 0] 26)).mono h0.size))
  have HC0 := Lib.hid (Chg.of (below_al W (.cells #[.int .i64 0, .string ⟨#[]⟩, .string ⟨#[]⟩, .string ⟨#[]⟩, .bool false, .int .i64 0, .int .i64 0, .int .i64 0, .slice none 0 0] 26)) [q])
  have HH := Lib.hid hr
  have HQL := Lib.hid hql
  have HWr := Lib.hid (show W.heap.size ≤ r + 1 from by omega)
  have HW0r := Lib.hid (show W0.heap.size ≤ r + 1 from by have := h0.size; omega)
  have HLEN := Lib.hid hlen
  clear h0 hq hA he hql hs hT hok hsz hu hlen
  go_enter Tryz.func82, Tryz.ntmps82
  go_upto_region 1 with fail
  rw [← hr]
  clear hr
  revert HR0 HQ0 HB0 HC0
  generalize W.alloc (.cells #[.int .i64 0, .string ⟨#[]⟩, .string ⟨#[]⟩, .string ⟨#[]⟩, .bool false, .int .i64 0, .int .i64 0, .int .i64 0, .slice none 0 0] 26) = w0
  intro HR0 HQ0 HB0 HC0
  go_upto_block 0 with (first
    | (go_at_call 53; (with_reducible refine (HT0.out _ HB0.out HQ0.out).mono ?_); rintro e w1 ⟨rfl, hq1, hb, hc⟩; have HQ1 := Lib.hid hq1; have HB1 := Lib.hid hb; have HC1 := Lib.hid (HC0.out.next hc); have HR1 := Lib.hid (hc.blk HR0.out HR0.out.lt HTQ.out); clear hq1 hb hc HQ0 HB0 HC0 HR0)
    | (go_at_call 124; (with_reducible refine (HT1.out _ HB1.out HQ1.out).mono ?_); rintro e w2 ⟨rfl, hq1, hb, hc⟩; have HQ2 := Lib.hid hq1; have HB2 := Lib.hid hb; have HC2 := Lib.hid (HC1.out.next hc); have HR2 := Lib.hid (hc.blk HR1.out HR1.out.lt HTQ.out); clear hq1 hb hc HQ1 HB1 HC1 HR1)
    | (go_at_call 80; (with_reducible refine (HTS.out _ HB2.out HQ2.out).mono ?_); rintro e w3 ⟨g, cp, rfl, hr3, hb, hc⟩; have HRD := Lib.hid hr3; have HB3 := Lib.hid hb; have HC3 := Lib.hid (HC2.out.next hc); have HR3 := Lib.hid (hc.blk HR2.out HR2.out.lt HTQ.out); clear hr3 hb hc HQ2 HB2 HC2 HR2))
  go_cut [5] (fun u5 wr => ∃ v : Value, v = u5 ∧ Hid (RowOf 9 1 sC wr w3.heap.size v tL) ∧ Hid (Below w3.heap.size w3 wr))
  case first =>
    go_wp2_with fail
    go_loopw [5, 15] (fun u5 u15 wr => ∃ (k : Nat) (v : Value), k ≤ C ∧ v = u5 ∧ u15 = .int .i64 (k : Int) ∧ Hid (RowOf 9 1 sC wr w3.heap.size v (tL.take k)) ∧ Hid (Below w3.heap.size w3 wr)) (fun _ u15 _ => C - (intOf u15).toNat)
    case atStart => exact ⟨0, _, Nat.zero_le _, rfl, rfl, Lib.hid (RowOf.nil _ _), Lib.hid (Below.refl _ _)⟩
    case round =>
      obtain ⟨k, v, hk, rfl, rfl, HO, HB⟩ := hrel
      by_cases hkl : k < C
      · have i1 : IntKind.i64.wrap ((k : Int) + 1) = (k : Int) + 1 := IntWalk.i64_in _ (by omega)
        have x1 : 0 ≤ (k : Int) := by omega
        have x2 : (k : Int) < (C : Int) := by omega
        have hkm : k < tL.length := by rw [HLEN.out]; exact hkl
        obtain ⟨t, ht⟩ : ∃ t, t = tL[k] := ⟨_, rfl⟩
        have c0 : wr.cell? ⟨g, k, none⟩ = some (.string t) := by
          obtain ⟨A', c', e, -, -, e3⟩ := HRD.out.below HB.out
          injection e with e4 e5 e6
          obtain ⟨b, o, e7, e8, e9⟩ := e3 (by omega)
          rw [← e4] at e7
          injection e7 with e7
          injection e7 with e10 e11
          subst e10 e11
          have h := e9 k hkm 0 (by decide)
          rw [Nat.mul_one, Nat.add_zero, Nat.zero_add, ← ht] at h
          exact h
        have HTS2 := Lib.hid (show tL.take (k + 1) = tL.take k ++ [t] from by rw [List.take_add_one, List.getElem?_eq_getElem hkm, ht]; rfl)
        have hlk : (tL.take k).length ≤ 1000 := by rw [List.length_take]; omega
        obtain ⟨LK, hLK⟩ : ∃ LK, LK = tL.take k := ⟨_, rfl⟩
        rw [← hLK] at HO hlk HTS2
        clear hLK ht hkm
        have hsz := HB.out.size
        have HSZ := Lib.hid hsz
        clear hsz
        by_cases htz : t.toList = []
        all_goals
          go_wp2_with (at_builtin; go_loud (refine wp_row1 96 9 1 16 sC _ Tryz.underlying96 str_info rfl (by decide) sC_one rfl _ _ rfl w3.heap.size _ LK rfl HO.out t _ ?_ rfl (by omega) (by unfold maxLen; omega) HSZ.out ?_); (rfl); intro v4 w7 ho hb hg; have HO7 := Lib.hid ho; have HB7 := Lib.hid (HB.out.trans hb); clear ho hb hg HO HB)
          go_roundw
          case rel => exact ⟨k + 1, _, by omega, rfl, by go_num, by rw [HTS2.out]; exact HO7, HB7⟩
          case measure => simp [intOf]; omega
      · obtain rfl : k = C := by omega
        go_wp2_with fail
        go_meet
        exact ⟨v, rfl, by rw [List.take_of_length_le (Nat.le_of_eq HLEN.out)] at HO; exact HO, HB⟩
  case rest =>
    obtain ⟨v, rfl, HO, HB⟩ := hcut
    have HBx := Lib.hid (HB3.out.trans (HB.out.mono HB3.out.size))
    have HCx := Lib.hid (HC3.out.trans (Chg.of (HB.out.mono HC3.out.size) [q]))
    have HRx := Lib.hid (HR3.out.later HB.out)
    clear HB3 HC3 HR3 HRD HB
    go_upto_region 99 with (first
      | (go_at_call 79; (with_reducible refine (HJ.out _ _ _ HO.out).mono ?_); rintro e w5 ⟨rfl, hb⟩; have HB5 := Lib.hid (HBx.out.trans (hb.mono HBx.out.size)); have HC5 := Lib.hid (HCx.out.next (Chg.of hb [q])); have HR5 := Lib.hid (HRx.out.later hb); clear hb HBx HCx HRx)
      | (go_at_call 7; (with_reducible refine (HTX.out _ HB5.out).mono ?_); rintro e w6 ⟨rfl, hb⟩; have HC6 := Lib.hid (HC5.out.next (Chg.of hb [q])); have HR6 := Lib.hid (HR5.out.later hb); clear hb HB5 HC5 HR5; obtain ⟨f0, f1, f2, f3, f4, f5, f6, f7, f8⟩ := HR6.out.ninef; obtain ⟨z0, z1, z2, z3, z4, z5, z6, z7, z8⟩ := HR6.out.nine))
    clear f0 f1 f2 f3 f4 f5 f6 f7 f8 z0 z1 z2 z3 z4 z5 z6 z7 z8
    obtain ⟨q0, q1, q2, q3, q4, q5, q6, q7, q8⟩ := (HR6.out.nine_set (.int .i64 2) (.string ⟨#[]⟩) (.string ⟨#[]⟩) (.string s) (.bool false) (.int .i64 0) (.int .i64 0) (.int .i64 0) (.slice none 0 0)).1.nine
    have hcn := chg_nine w6 r (.int .i64 2) (.string ⟨#[]⟩) (.string ⟨#[]⟩) (.string s) (.bool false) (.int .i64 0) (.int .i64 0) (.int .i64 0) (.slice none 0 0)
    refine bodyPost_ret (v := .agg #[.int .i64 2, .string ⟨#[]⟩, .string ⟨#[]⟩, .string s, .bool false, .int .i64 0, .int .i64 0, .int .i64 0, .slice none 0 0]) (by simp [results, Tryz.results82, go_sem, q0, q1, q2, q3, q4, q5, q6, q7, q8]) rfl ⟨rfl, HC6.out.trans (hcn.mono HC6.out.size fun x hx => .inr (by
      rw [List.mem_singleton.1 hx, HH.out]
      exact Nat.le_refl _))⟩
end Go.Proofs.YtcnlonaighlmbaaGreatDoor

namespace Go.Proofs.YtcnlonaighlmbaaGreatDoor
open Go.RowKit

set_option maxRecDepth 100000 in
set_option maxHeartbeats 8000000 in
/-- SUBSTITUTE. -/
theorem fSub_any (W0 W : World) (q : Nat) (A : Option Addr) (c : Nat) (cs ds es : List (List UInt8)) (hcs : ChsOk cs) (hds : ChsOk ds) (hes : ChsOk es) (hsz : (tx cs).size ≤ 300) (hsd : (tx ds).size ≤ 32767) (hse : (tx es).size ≤ 20) (hne : ds ≠ []) (s : ByteArray) (hs : (⟨(Lib.replaceAll (tx cs).data.toList (tx ds).data.toList (tx es).data.toList).toArray⟩ : ByteArray) = s) (hok : txtE s = 0) (he : VEnv W0) (h0 : Below W0.heap.size W0 W) (hq0 : W0.heap.size ≤ q) (hq : Blk W q 120 #[.slice A 3 c, .int .i64 0]) (hA : Reads 9 csV W0 (.slice A 3 c) [tV (tx cs), tV (tx ds), tV (tx es)]) :
    Calls Tryz.prog 69 #[.pointer (some ⟨q, 0, none⟩)] W (ResV (tV s) q W) := by
  have ht := txtE_chs hcs (by omega)
  have hd := txtE_chs hds hsd
  have hx := txtE_chs hes (by omega)
  have HT0 := Lib.hid (show ∀ W', Below W0.heap.size W0 W' → Blk W' q 120 #[.slice A 3 c, .int .i64 ((0 : Nat) : Int)] → Calls Tryz.prog 53 #[.pointer (some ⟨q, 0, none⟩)] W' fun e w' => e = .returned (.string (tx cs)) ∧ Blk w' q 120 #[.slice A 3 c, .int .i64 ((1 : Nat) : Int)] ∧ Below W0.heap.size W0 w' ∧ Chg W'.heap.size [q] W' w' from fun W' h1 h2 => text_b W0 W' q A 3 c 0 (tx cs) [tV (tx cs), tV (tx ds), tV (tx es)] h1 hq0 h2 hA (by decide) (by decide) rfl he ht)
  have HT1 := Lib.hid (show ∀ W', Below W0.heap.size W0 W' → Blk W' q 120 #[.slice A 3 c, .int .i64 ((1 : Nat) : Int)] → Calls Tryz.prog 53 #[.pointer (some ⟨q, 0, none⟩)] W' fun e w' => e = .returned (.string (tx ds)) ∧ Blk w' q 120 #[.slice A 3 c, .int .i64 ((2 : Nat) : Int)] ∧ Below W0.heap.size W0 w' ∧ Chg W'.heap.size [q] W' w' from fun W' h1 h2 => text_b W0 W' q A 3 c 1 (tx ds) [tV (tx cs), tV (tx ds), tV (tx es)] h1 hq0 h2 hA (by decide) (by decide) rfl he hd)
  have HT2 := Lib.hid (show ∀ W', Below W0.heap.size W0 W' → Blk W' q 120 #[.slice A 3 c, .int .i64 ((2 : Nat) : Int)] → Calls Tryz.prog 53 #[.pointer (some ⟨q, 0, none⟩)] W' fun e w' => e = .returned (.string (tx es)) ∧ Blk w' q 120 #[.slice A 3 c, .int .i64 ((3 : Nat) : Int)] ∧ Below W0.heap.size W0 w' ∧ Chg W'.heap.size [q] W' w' from fun W' h1 h2 => text_b W0 W' q A 3 c 2 (tx es) [tV (tx cs), tV (tx ds), tV (tx es)] h1 hq0 h2 hA (by decide) (by decide) rfl he hx)
  have HMO := Lib.hid fun W' (h2 : Blk W' q 120 #[.slice A 3 c, .int .i64 ((3 : Nat) : Int)]) => more_any q A 3 c 3 W' h2 false (by simp)
  have HWO := Lib.hid fun W' (h2 : Blk W' q 120 #[.slice A 3 c, .int .i64 ((3 : Nat) : Int)]) => wor_0 0 q A 3 c W' h2
  have hp1 := tx_pos hds hne
  have HRA := Lib.hid (show ∀ W', Below W0.heap.size W0 W' → Calls Tryz.prog 120 #[.string (tx cs), .string (tx ds), .string (tx es)] W' fun e w' => e = .returned (.string s) ∧ Below W'.heap.size W' w' from fun W' h1 => by
    obtain ⟨mm, hmm⟩ := (he.below h1).mx
    rw [← hs]
    have h2 : Lib.countB (tx cs) (tx ds) * (tx es).size ≤ 300 * 20 := Nat.mul_le_mul (Nat.le_trans (pcs_count hp1) hsz) hse
    exact Tryz.strings_ReplaceAll (tx cs) (tx ds) (tx es) mm W' (by omega) hmm hp1 (by omega))
  have hsz2 := txtE_size hok
  have HTX := Lib.hid (show ∀ W', Below W0.heap.size W0 W' → Calls Tryz.prog 7 #[.string s] W' fun e w' => e = .returned (.agg #[.int .i64 2, .string ⟨#[]⟩, .string ⟨#[]⟩, .string s, .bool false, .int .i64 0, .int .i64 0, .int .i64 0, .slice none 0 0]) ∧ Below W'.heap.size W' w' from fun W' h1 => text_t s W' (he.below h1) hok (Nat.le_trans hsz2 (by decide)))
  have hne2 : ¬ (tx ds).toList = [] := tx_nil_l hds (i := 0) (List.length_pos_iff.2 hne)
  have hne3 : (tx ds).toList.isEmpty = false := by simp [hne2]
  have hql := hq.lt
  obtain ⟨r, hr⟩ : ∃ r, r = W.heap.size := ⟨_, rfl⟩
  have HR0 := Lib.hid (Blk.new W 26 #[.int .i64 0, .string ⟨#[]⟩, .string ⟨#[]⟩, .string ⟨#[]⟩, .bool false, .int .i64 0, .int .i64 0, .int .i64 0, .slice none 0 0])
  rw [← hr] at HR0
  have HTQ := Lib.hid (show r ∉ [q] from by rw [List.mem_singleton]; omega)
  have HQ0 := Lib.hid (show Blk (W.alloc (.cells #[.int .i64 0, .string ⟨#[]⟩, .string ⟨#[]⟩, .string ⟨#[]⟩, .bool false, .int .i64 0, .int .i64 0, .int .i64 0, .slice none 0 0] 26)) q 120 #[.slice A 3 c, .int .i64 ((0 : Nat) : Int)] from hq.alloc _)
  have HB0 := Lib.hid (h0.trans ((below_al W (.cells #[.int .i64 0, .string ⟨#[]⟩, .string ⟨#[]⟩, .string ⟨#[]⟩, .bool false, .int .i64 0, .int .i64 0, .int .i64 0, .slice none 0 0] 26)).mono h0.size))
  have HC0 := Lib.hid (Chg.of (below_al W (.cells #[.int .i64 0, .string ⟨#[]⟩, .string ⟨#[]⟩, .string ⟨#[]⟩, .bool false, .int .i64 0, .int .i64 0, .int .i64 0, .slice none 0 0] 26)) [q])
  have HH := Lib.hid hr
  clear h0 hq hA he hql hs hok ht hd hx hp1 hsz2
  go_enter Tryz.func69, Tryz.ntmps69
  go_upto_region 1 with fail
  rw [← hr]
  clear hr
  revert HR0 HQ0 HB0 HC0
  generalize W.alloc (.cells #[.int .i64 0, .string ⟨#[]⟩, .string ⟨#[]⟩, .string ⟨#[]⟩, .bool false, .int .i64 0, .int .i64 0, .int .i64 0, .slice none 0 0] 26) = w0
  intro HR0 HQ0 HB0 HC0
  go_upto_region 99 with (first
    | (go_at_call 53; (with_reducible refine (HT0.out _ HB0.out HQ0.out).mono ?_); rintro e w1 ⟨rfl, hq1, hb, hc⟩; have HQ1 := Lib.hid hq1; have HB1 := Lib.hid hb; have HC1 := Lib.hid (HC0.out.next hc); have HR1 := Lib.hid (hc.blk HR0.out HR0.out.lt HTQ.out); clear hq1 hb hc HQ0 HB0 HC0 HR0)
    | (go_at_call 53; (with_reducible refine (HT1.out _ HB1.out HQ1.out).mono ?_); rintro e w2 ⟨rfl, hq1, hb, hc⟩; have HQ2 := Lib.hid hq1; have HB2 := Lib.hid hb; have HC2 := Lib.hid (HC1.out.next hc); have HR2 := Lib.hid (hc.blk HR1.out HR1.out.lt HTQ.out); clear hq1 hb hc HQ1 HB1 HC1 HR1)
    | (go_at_call 53; (with_reducible refine (HT2.out _ HB2.out HQ2.out).mono ?_); rintro e w3 ⟨rfl, hq1, hb, hc⟩; have HQ3 := Lib.hid hq1; have HB3 := Lib.hid hb; have HC3 := Lib.hid (HC2.out.next hc); have HR3 := Lib.hid (hc.blk HR2.out HR2.out.lt HTQ.out); clear hq1 hb hc HQ2 HB2 HC2 HR2)
    | (go_at_call 119; (with_reducible refine (HMO.out _ HQ3.out).mono ?_); rintro e w4 ⟨rfl, hb⟩; have HQ4 := Lib.hid (HQ3.out.later hb); have HB4 := Lib.hid (HB3.out.trans (hb.mono HB3.out.size)); have HC4 := Lib.hid (HC3.out.next (Chg.of hb [q])); have HR4 := Lib.hid (HR3.out.later hb); clear hb HQ3 HB3 HC3 HR3)
    | (go_at_call 114; (with_reducible refine (HWO.out _ HQ4.out).mono ?_); rintro e w5 ⟨rfl, hb⟩; have HQ5 := Lib.hid (HQ4.out.later hb); have HB5 := Lib.hid (HB4.out.trans (hb.mono HB4.out.size)); have HC5 := Lib.hid (HC4.out.next (Chg.of hb [q])); have HR5 := Lib.hid (HR4.out.later hb); clear hb HQ4 HB4 HC4 HR4)
    | (go_at_call 115; (with_reducible refine (wrong_b (by simp) _).mono ?_); rintro e w5s ⟨rfl, rfl⟩)
    | (go_at_call 120; (with_reducible refine (HRA.out _ HB5.out).mono ?_); rintro e w6 ⟨rfl, hb⟩; have HQ6 := Lib.hid (HQ5.out.later hb); have HB6 := Lib.hid (HB5.out.trans (hb.mono HB5.out.size)); have HC6 := Lib.hid (HC5.out.next (Chg.of hb [q])); have HR6 := Lib.hid (HR5.out.later hb); clear hb HQ5 HB5 HC5 HR5)
    | (go_at_call 7; (with_reducible refine (HTX.out _ HB6.out).mono ?_); rintro e w7 ⟨rfl, hb⟩; have HQ7 := Lib.hid (HQ6.out.later hb); have HB7 := Lib.hid (HB6.out.trans (hb.mono HB6.out.size)); have HC7 := Lib.hid (HC6.out.next (Chg.of hb [q])); have HR7 := Lib.hid (HR6.out.later hb); clear hb HQ6 HB6 HC6 HR6; obtain ⟨f0, f1, f2, f3, f4, f5, f6, f7, f8⟩ := HR7.out.ninef; obtain ⟨z0, z1, z2, z3, z4, z5, z6, z7, z8⟩ := HR7.out.nine))
  clear f0 f1 f2 f3 f4 f5 f6 f7 f8 z0 z1 z2 z3 z4 z5 z6 z7 z8
  obtain ⟨q0, q1, q2, q3, q4, q5, q6, q7, q8⟩ := (HR7.out.nine_set (.int .i64 2) (.string ⟨#[]⟩) (.string ⟨#[]⟩) (.string s) (.bool false) (.int .i64 0) (.int .i64 0) (.int .i64 0) (.slice none 0 0)).1.nine
  have hcn := chg_nine w7 r (.int .i64 2) (.string ⟨#[]⟩) (.string ⟨#[]⟩) (.string s) (.bool false) (.int .i64 0) (.int .i64 0) (.int .i64 0) (.slice none 0 0)
  refine bodyPost_ret (v := .agg #[.int .i64 2, .string ⟨#[]⟩, .string ⟨#[]⟩, .string s, .bool false, .int .i64 0, .int .i64 0, .int .i64 0, .slice none 0 0]) (by simp [results, Tryz.results69, go_sem, q0, q1, q2, q3, q4, q5, q6, q7, q8]) rfl ⟨rfl, HC7.out.trans (hcn.mono HC7.out.size fun x hx => .inr (by
    rw [List.mem_singleton.1 hx, HH.out]
    exact Nat.le_refl _))⟩
end Go.Proofs.YtcnlonaighlmbaaGreatDoor

namespace Go.Proofs.YtcnlonaighlmbaaGreatDoor
open Go.RowKit

/-- What TEXTSPLIT answers. -/
def PhA (L : List ByteArray) (h : Vl) (us : List Vl) : Prop := h = ⟨5, ⟨#[]⟩, ⟨#[]⟩, ⟨#[]⟩, false, 0, 1, (L.length : Int), none, 0, 0⟩ ∧ us = L.map tV
def svC (x : Nat × Nat) : List Value := [.slice (some ⟨x.1, 0, none⟩) x.2 x.2]
theorem svC_one (x : Nat × Nat) : (svC x).length = 1 ∧ ∀ u ∈ svC x, u.oneCell' = true := ⟨rfl, by simp [svC, Value.oneCell']⟩
theorem ss_info : (Tryz.prog.info? 96).map (fun i => (i.zero, i.size, i.bytes)) = some (some (.slice none 0 0), 1, 24) := by kernel_rfl
theorem cell_1 {α : Type} {f : α → List Value} {W : World} {g n c : Nat} {L : List α} (h : Reads 1 f W (.slice (some ⟨g, 0, none⟩) n c) L) (k : Nat) (hk : k < L.length) : W.cell? ⟨g, k, none⟩ = (f L[k])[0]? := by
  obtain ⟨A', c', e, -, -, e3⟩ := h
  injection e with e4 e5 e6
  obtain ⟨b, o, e7, e8, e9⟩ := e3 (by omega)
  rw [← e4] at e7
  injection e7 with e7
  injection e7 with e10 e11
  subst e10 e11
  have h := e9 k hk 0 (by decide)
  rw [Nat.mul_one, Nat.add_zero, Nat.zero_add] at h
  exact h
theorem split_c (cs ds : List (List UInt8)) (hsz : (tx cs).size ≤ 32767) (hp : 1 ≤ (tx ds).size) (m : Nat) (hm : (pcs (tx cs) (tx ds)).length = m) (W : World) (he : VEnv W) : Calls Tryz.prog 111 #[.string (tx cs), .string (tx ds)] W fun e w' => ∃ Br, e = .returned (.slice (some ⟨Br, 0, none⟩) m m) ∧ Reads 1 sC w' (.slice (some ⟨Br, 0, none⟩) m m) (pcs (tx cs) (tx ds)) ∧ Below W.heap.size W w' := by
  obtain ⟨mm, hmm⟩ := he.mx
  refine (Tryz.strings_Split (tx cs) (tx ds) mm W (by omega) hmm hp).mono fun e w' ⟨h1, h2⟩ => ?_
  rw [← pcs_len hp, hm] at h1
  refine ⟨W.heap.size, h1, ?_, by rw [h2]; exact below_al W _⟩
  subst hm
  rw [h2]
  refine ⟨_, _, rfl, Nat.le_refl _, (fun e => by cases e), fun _ => ⟨W.heap.size, 0, rfl, by simp, fun i hi j hj => ?_⟩⟩
  obtain rfl : j = 0 := by omega
  have h3 := (Blk.new W 9 ((pcs (tx cs) (tx ds)).map Value.string).toArray).cell i
  rw [Nat.zero_add, Nat.mul_one, Nat.add_zero]
  refine h3.trans ?_
  rw [List.getElem?_toArray, List.getElem?_map, List.getElem?_eq_getElem hi]
  rfl
theorem row_nine {α : Type} {E : TypeId} {size : Nat} {f : α → List Value} {w : World} {v : Value} {l : List α} {base X : Nat} (h : RowOf E size f w base v l) (hx : ∀ g, v.ownBlock = some g → g ≠ X) (y0 y1 y2 y3 y4 y5 y6 y7 y8 : Value) : RowOf E size f (((((((((w.setCell ⟨X, 0, none⟩ y0).setCell ⟨X, 1, none⟩ y1).setCell ⟨X, 2, none⟩ y2).setCell ⟨X, 3, none⟩ y3).setCell ⟨X, 4, none⟩ y4).setCell ⟨X, 5, none⟩ y5).setCell ⟨X, 6, none⟩ y6).setCell ⟨X, 7, none⟩ y7).setCell ⟨X, 8, none⟩ y8) base v l := ((((((((RowOf.far h hx y0).far hx y1).far hx y2).far hx y3).far hx y4).far hx y5).far hx y6).far hx y7).far hx y8
set_option maxRecDepth 100000 in
set_option maxHeartbeats 8000000 in
/-- TEXTSPLIT. -/
theorem fSpl_any (B0 W0 W : World) (q : Nat) (A : Option Addr) (c : Nat) (cs ds : List (List UInt8)) (hcs : ChsOk cs) (hds : ChsOk ds) (hsz : (tx cs).size ≤ 300) (hsd : (tx ds).size ≤ 32767) (hne : ds ≠ []) (he : VEnv W0) (h0 : Below W0.heap.size W0 W) (hq0 : W0.heap.size ≤ q) (hq : Blk W q 120 #[.slice A 2 c, .int .i64 0]) (hA : Reads 9 csV W0 (.slice A 2 c) [tV (tx cs), tV (tx ds)]) :
    Calls Tryz.prog 83 #[.pointer (some ⟨q, 0, none⟩)] W (ResG B0 W [q] (PhA (pcs (tx cs) (tx ds)))) := by
  have ht := txtE_chs hcs (by omega)
  have hd := txtE_chs hds hsd
  have hp1 := tx_pos hds hne
  obtain ⟨m, hm⟩ : ∃ m, (pcs (tx cs) (tx ds)).length = m := ⟨_, rfl⟩
  have hm1 : 1 ≤ m := by rw [← hm, pcs_len hp1]; omega
  have hm2 : m ≤ 301 := by rw [← hm, pcs_len hp1]; have := pcs_count (s := tx cs) hp1; omega
  have HT0 := Lib.hid (show ∀ W', Below W0.heap.size W0 W' → Blk W' q 120 #[.slice A 2 c, .int .i64 ((0 : Nat) : Int)] → Calls Tryz.prog 53 #[.pointer (some ⟨q, 0, none⟩)] W' fun e w' => e = .returned (.string (tx cs)) ∧ Blk w' q 120 #[.slice A 2 c, .int .i64 ((1 : Nat) : Int)] ∧ Below W0.heap.size W0 w' ∧ Chg W'.heap.size [q] W' w' from fun W' h1 h2 => text_b W0 W' q A 2 c 0 (tx cs) [tV (tx cs), tV (tx ds)] h1 hq0 h2 hA (by decide) (by decide) rfl he ht)
  have HT1 := Lib.hid (show ∀ W', Below W0.heap.size W0 W' → Blk W' q 120 #[.slice A 2 c, .int .i64 ((1 : Nat) : Int)] → Calls Tryz.prog 53 #[.pointer (some ⟨q, 0, none⟩)] W' fun e w' => e = .returned (.string (tx ds)) ∧ Blk w' q 120 #[.slice A 2 c, .int .i64 ((2 : Nat) : Int)] ∧ Below W0.heap.size W0 w' ∧ Chg W'.heap.size [q] W' w' from fun W' h1 h2 => text_b W0 W' q A 2 c 1 (tx ds) [tV (tx cs), tV (tx ds)] h1 hq0 h2 hA (by decide) (by decide) rfl he hd)
  have HMO := Lib.hid fun W' (h2 : Blk W' q 120 #[.slice A 2 c, .int .i64 ((2 : Nat) : Int)]) => more_any q A 2 c 2 W' h2 false (by simp)
  have HSP := Lib.hid fun W' (h1 : Below W0.heap.size W0 W') => split_c cs ds (by omega) hp1 m hm W' (he.below h1)
  have HFA := Lib.hid (show ∀ W', Below W0.heap.size W0 W' → Calls Tryz.prog 49 #[.int .i64 6] W' fun e w' => e = .returned (.agg #[.int .i64 4, .string ⟨#[]⟩, .string ⟨#[]⟩, .string ⟨#[]⟩, .bool false, .int .i64 6, .int .i64 0, .int .i64 0, .slice none 0 0]) ∧ Below W'.heap.size W' w' from fun W' h1 => fault_t 6 W' (he.below h1) (by decide) (by decide))
  have HTX := Lib.hid (show ∀ k (hk : k < (pcs (tx cs) (tx ds)).length) W', Below W0.heap.size W0 W' → Calls Tryz.prog 7 #[.string (pcs (tx cs) (tx ds))[k]] W' fun e w' => e = .returned (.agg #[.int .i64 2, .string ⟨#[]⟩, .string ⟨#[]⟩, .string (pcs (tx cs) (tx ds))[k], .bool false, .int .i64 0, .int .i64 0, .int .i64 0, .slice none 0 0]) ∧ Below W'.heap.size W' w' from fun k hk W' h1 => by
    have h2 := pcs_ok hcs hds hne (by omega) _ (List.getElem_mem hk)
    exact text_t _ W' (he.below h1) h2 (Nat.le_trans (txtE_size h2) (by decide)))
  have HTB := Lib.hid (show ∀ A' n' c' W', Calls Tryz.prog 134 #[.int .i64 1, .int .i64 (m : Int), .slice A' n' c'] W' fun e w' => e = .returned (.agg #[.int .i64 5, .string ⟨#[]⟩, .string ⟨#[]⟩, .string ⟨#[]⟩, .bool false, .int .i64 0, .int .i64 1, .int .i64 (m : Int), .slice A' n' c']) ∧ Below W'.heap.size W' w' from fun A' n' c' W' => tbl_a 1 (m : Int) A' n' c' W' (by decide) (by decide) (by omega) (by omega))
  have hne2 : ¬ (tx ds).toList = [] := tx_nil_l hds (i := 0) (List.length_pos_iff.2 hne)
  have hne3 : (tx ds).toList.isEmpty = false := by simp [hne2]
  have HWQ := Lib.hid (show W.heap.size ≤ W.heap.size from Nat.le_refl _)
  have hql := hq.lt
  obtain ⟨r, hr⟩ : ∃ r, r = W.heap.size := ⟨_, rfl⟩
  have HR0 := Lib.hid (Blk.new W 26 #[.int .i64 0, .string ⟨#[]⟩, .string ⟨#[]⟩, .string ⟨#[]⟩, .bool false, .int .i64 0, .int .i64 0, .int .i64 0, .slice none 0 0])
  rw [← hr] at HR0
  have HTQ := Lib.hid (show r ∉ [q] from by rw [List.mem_singleton]; omega)
  have HQ0 := Lib.hid (show Blk (W.alloc (.cells #[.int .i64 0, .string ⟨#[]⟩, .string ⟨#[]⟩, .string ⟨#[]⟩, .bool false, .int .i64 0, .int .i64 0, .int .i64 0, .slice none 0 0] 26)) q 120 #[.slice A 2 c, .int .i64 ((0 : Nat) : Int)] from hq.alloc _)
  have HB0 := Lib.hid (h0.trans ((below_al W (.cells #[.int .i64 0, .string ⟨#[]⟩, .string ⟨#[]⟩, .string ⟨#[]⟩, .bool false, .int .i64 0, .int .i64 0, .int .i64 0, .slice none 0 0] 26)).mono h0.size))
  have HC0 := Lib.hid (Chg.of (below_al W (.cells #[.int .i64 0, .string ⟨#[]⟩, .string ⟨#[]⟩, .string ⟨#[]⟩, .bool false, .int .i64 0, .int .i64 0, .int .i64 0, .slice none 0 0] 26)) [q])
  have HH := Lib.hid hr
  have HMM := Lib.hid hm
  clear h0 hq hA he hql ht hd hp1 hm
  go_enter Tryz.func83, Tryz.ntmps83
  go_upto_region 1 with fail
  rw [← hr]
  clear hr
  revert HR0 HQ0 HB0 HC0
  generalize W.alloc (.cells #[.int .i64 0, .string ⟨#[]⟩, .string ⟨#[]⟩, .string ⟨#[]⟩, .bool false, .int .i64 0, .int .i64 0, .int .i64 0, .slice none 0 0] 26) = w0
  intro HR0 HQ0 HB0 HC0
  go_upto_region 5 with (first
    | (go_at_call 53; (with_reducible refine (HT0.out _ HB0.out HQ0.out).mono ?_); rintro e w1 ⟨rfl, hq1, hb, hc⟩; have HQ1 := Lib.hid hq1; have HB1 := Lib.hid hb; have HC1 := Lib.hid (HC0.out.next hc); have HR1 := Lib.hid (hc.blk HR0.out HR0.out.lt HTQ.out); clear hq1 hb hc HQ0 HB0 HC0 HR0)
    | (go_at_call 53; (with_reducible refine (HT1.out _ HB1.out HQ1.out).mono ?_); rintro e w2 ⟨rfl, hq1, hb, hc⟩; have HQ2 := Lib.hid hq1; have HB2 := Lib.hid hb; have HC2 := Lib.hid (HC1.out.next hc); have HR2 := Lib.hid (hc.blk HR1.out HR1.out.lt HTQ.out); clear hq1 hb hc HQ1 HB1 HC1 HR1)
    | (go_at_call 119; (with_reducible refine (HMO.out _ HQ2.out).mono ?_); rintro e w3 ⟨rfl, hb⟩; have HQ3 := Lib.hid (HQ2.out.later hb); have HB3 := Lib.hid (HB2.out.trans (hb.mono HB2.out.size)); have HC3 := Lib.hid (HC2.out.next (Chg.of hb [q])); have HR3 := Lib.hid (HR2.out.later hb); clear hb HQ2 HB2 HC2 HR2)
    | (go_at_call 115; (with_reducible refine (wrong_b (by simp [hne2]) _).mono ?_); rintro e w3s ⟨rfl, rfl⟩))
  go_upto_region 6 with fail
  have hba := below_al w3 (.cells #[.string (tx cs)] 9)
  have HLB := Lib.hid (Blk.new w3 9 #[.string (tx cs)])
  have HBL := Lib.hid (HB3.out.trans (hba.mono HB3.out.size))
  have HCL := Lib.hid (HC3.out.next (Chg.of hba [q]))
  have HRL := Lib.hid (HR3.out.later hba)
  clear hba HB3 HC3 HR3 HQ3 hne2 hne3
  revert HLB HBL HCL HRL
  generalize w3.alloc (.cells #[.string (tx cs)] 9) = wL
  generalize w3.heap.size = Lb
  intro HLB HBL HCL HRL
  have hmx : max (0 : Int) (m : Int) = (m : Int) := by omega
  go_upto_block 0 with fail
  go_cut [7, 8] (fun u7 u8 wr => ∃ g cp Br : Nat, u7 = .slice (some ⟨g, 0, none⟩) 1 cp ∧ u8 = .int .i64 (m : Int) ∧ Hid (wr.cell? ⟨g, 0, none⟩ = some (.slice (some ⟨Br, 0, none⟩) m m)) ∧ Hid (Reads 1 sC wr (.slice (some ⟨Br, 0, none⟩) m m) (pcs (tx cs) (tx ds))) ∧ Hid (Below wL.heap.size wL wr))
  case first =>
    go_wp2_with fail
    go_loopw [7, 8, 37] (fun u7 u8 u37 wr => ∃ (v : Value) (i : Nat), v = u7 ∧ u37 = .int .i64 (i : Int) ∧ Hid (Below wL.heap.size wL wr) ∧ ((i = 0 ∧ v = .slice none 0 0 ∧ u8 = .int .i64 0) ∨ (i = 1 ∧ ∃ g cp Br : Nat, v = .slice (some ⟨g, 0, none⟩) 1 cp ∧ u8 = .int .i64 (m : Int) ∧ Hid (wr.cell? ⟨g, 0, none⟩ = some (.slice (some ⟨Br, 0, none⟩) m m)) ∧ Hid (Reads 1 sC wr (.slice (some ⟨Br, 0, none⟩) m m) (pcs (tx cs) (tx ds)))))) (fun _ _ u37 _ => 1 - (intOf u37).toNat)
    case atStart => exact ⟨_, 0, rfl, rfl, Lib.hid (Below.refl _ _), .inl ⟨rfl, rfl, rfl⟩⟩
    case round =>
      obtain ⟨v, i, rfl, rfl, HB, hi⟩ := hrel
      rcases hi with ⟨rfl, rfl, rfl⟩ | ⟨rfl, g, cp, Br, rfl, rfl, HG, HP⟩
      · have c0 : wr.cell? ⟨Lb, 0, none⟩ = some (.string (tx cs)) := (HLB.out.later HB.out).cell 0
        have HSP1 := Lib.hid (HSP.out wr (HBL.out.trans (HB.out.mono HBL.out.size)))
        go_wp2_with (first
          | (go_at_call 111; (with_reducible refine HSP1.out.mono ?_); rintro e w6 ⟨Br, rfl, hr, hb⟩; have HP6 := Lib.hid hr; have HB6 := Lib.hid (HB.out.trans (hb.mono HB.out.size)); clear hr hb HB)
          | (at_builtin; go_loud (refine wp_row1 150 96 1 24 svC _ Tryz.underlying150 ss_info rfl (by decide) svC_one rfl _ _ rfl w6.heap.size _ [] rfl (RowOf.nil w6 _) (Br, m) _ ?_ rfl (by decide) (by decide) (Nat.le_refl _) ?_); (rfl); intro v4 w7 ho hb hg; have hrd := ho.reads (fun x => (svC_one x).1); obtain ⟨g, cp, rfl, -, -⟩ := RowOf.form ho (by simp); have HG7 := Lib.hid (cell_1 hrd 0 (by simp)); have HP7 := Lib.hid (HP6.out.below hb); have HB7 := Lib.hid (HB6.out.trans (hb.mono HB6.out.size)); clear ho hb hg hrd HP6 HB6))
        go_roundw
        case rel => exact ⟨_, 1, rfl, by go_num, HB7, .inr ⟨rfl, g, cp, Br, rfl, rfl, HG7, HP7⟩⟩
        case measure => simp [intOf]
      · go_wp2_with fail
        go_meet
        exact ⟨g, cp, Br, rfl, rfl, HG, HP, HB⟩
  case rest =>
    obtain ⟨g, cp, Br, rfl, rfl, HG, HP, HB⟩ := hcut
    have HBM := Lib.hid (HBL.out.trans (HB.out.mono HBL.out.size))
    have HCM := Lib.hid (HCL.out.next (Chg.of HB.out [q]))
    have HRM := Lib.hid (HRL.out.later HB.out)
    clear HLB HBL HCL HRL HB
    have d1 : ¬ (100000 : Int) < (m : Int) := by omega
    go_upto_block 2 with fail
    go_cut [12] (fun u12 wr => ∃ v : Value, v = u12 ∧ Hid (RowOf 26 9 csV wr wc.heap.size v ((pcs (tx cs) (tx ds)).map tV)) ∧ Hid (Below wc.heap.size wc wr))
    case first =>
      go_wp2_with fail
      go_loopw [12, 61] (fun u12 u61 wr => ∃ v : Value, v = u12 ∧ Hid (Below wc.heap.size wc wr) ∧ ((u61 = .int .i64 0 ∧ Hid (RowOf 26 9 csV wr wc.heap.size v [])) ∨ (u61 = .int .i64 1 ∧ Hid (RowOf 26 9 csV wr wc.heap.size v ((pcs (tx cs) (tx ds)).map tV))))) (fun _ u61 _ => 1 - (intOf u61).toNat)
      case atStart => exact ⟨_, rfl, Lib.hid (Below.refl _ _), .inl ⟨rfl, Lib.hid (RowOf.nil _ _)⟩⟩
      case round =>
        obtain ⟨v, rfl, HB, hi⟩ := hrel
        rcases hi with ⟨rfl, HO⟩ | ⟨rfl, HO⟩
        · have c0 : wr.cell? ⟨g, 0, none⟩ = some (.slice (some ⟨Br, 0, none⟩) m m) := cell_later HG.out HB.out
          go_upto_block 4 with fail
          go_wp2_with fail
          go_loopw [12, 66] (fun u12 u66 wr => ∃ (v : Value) (k : Nat), k ≤ m ∧ v = u12 ∧ u66 = .int .i64 (k : Int) ∧ Hid (Below wc.heap.size wc wr) ∧ Hid (RowOf 26 9 csV wr wc.heap.size v (((pcs (tx cs) (tx ds)).take k).map tV))) (fun _ u66 _ => m - (intOf u66).toNat)
          case atStart => exact ⟨_, 0, Nat.zero_le _, rfl, rfl, HB, HO⟩
          case round =>
            clear HB HO
            obtain ⟨v, k, hk, rfl, rfl, HB, HO⟩ := hrel
            by_cases hkl : k < m
            · have i1 : IntKind.i64.wrap ((k : Int) + 1) = (k : Int) + 1 := IntWalk.i64_in _ (by omega)
              have x1 : 0 ≤ (k : Int) := by omega
              have x2 : (k : Int) < (m : Int) := by omega
              have hkm : k < (pcs (tx cs) (tx ds)).length := by rw [HMM.out]; exact hkl
              obtain ⟨p, hp⟩ : ∃ p, p = (pcs (tx cs) (tx ds))[k] := ⟨_, rfl⟩
              have c1 := cell_1 HP.out k hkm
              rw [← hp] at c1
              have C1 := Lib.hid (show ∀ w', Below wc.heap.size wc w' → w'.cell? ⟨Br, k, none⟩ = some (.string p) from fun w' h => cell_later c1 h)
              have HFA1 := Lib.hid (HFA.out wr (HBM.out.trans (HB.out.mono HBM.out.size)))
              have HTX1 := HTX.out k hkm
              rw [← hp] at HTX1
              have HTX1 := Lib.hid HTX1
              have HPS := Lib.hid (show ((pcs (tx cs) (tx ds)).take (k + 1)).map tV = ((pcs (tx cs) (tx ds)).take k).map tV ++ [tV p] from by rw [List.take_add_one, List.getElem?_eq_getElem hkm, ← hp, List.map_append]; rfl)
              have hlk : (((pcs (tx cs) (tx ds)).take k).map tV).length ≤ 301 := by rw [List.length_map, List.length_take]; omega
              obtain ⟨LK, hLK⟩ : ∃ LK, LK = ((pcs (tx cs) (tx ds)).take k).map tV := ⟨_, rfl⟩
              rw [← hLK] at HO hlk HPS
              clear hp c1 hLK hkm c0
              go_upto_region 26 with (go_at_call 49; (with_reducible refine HFA1.out.mono ?_); rintro e w6 ⟨rfl, hb⟩; have HO6 := Lib.hid (HO.out.later hb); have HB6 := Lib.hid (HB.out.trans (hb.mono HB.out.size)); clear hb HO HB)
              have hba := below_al w6 (.cells #[.int .i64 4, .string ⟨#[]⟩, .string ⟨#[]⟩, .string ⟨#[]⟩, .bool false, .int .i64 6, .int .i64 0, .int .i64 0, .slice none 0 0] 26)
              have HX7 := Lib.hid (Blk.new w6 26 #[.int .i64 4, .string ⟨#[]⟩, .string ⟨#[]⟩, .string ⟨#[]⟩, .bool false, .int .i64 6, .int .i64 0, .int .i64 0, .slice none 0 0])
              have HO7 := Lib.hid (HO6.out.later hba)
              have HB7 := Lib.hid (HB6.out.trans (hba.mono HB6.out.size))
              have HXL := Lib.hid HB6.out.size
              have HNX := Lib.hid (show ∀ gg, v.ownBlock = some gg → gg ≠ w6.heap.size from fun gg h => by have := (HO6.out.lt gg h).2; omega)
              clear hba HO6 HB6
              revert HX7 HO7 HB7 HXL HNX
              generalize w6.alloc (.cells #[.int .i64 4, .string ⟨#[]⟩, .string ⟨#[]⟩, .string ⟨#[]⟩, .bool false, .int .i64 6, .int .i64 0, .int .i64 0, .slice none 0 0] 26) = w7
              generalize w6.heap.size = X
              intro HX7 HO7 HB7 HXL HNX
              have c2 := C1.out w7 HB7.out
              go_upto_region 28 with (go_at_call 7; (with_reducible refine (HTX1.out _ (HBM.out.trans (HB7.out.mono HBM.out.size))).mono ?_); rintro e w8 ⟨rfl, hb⟩; have HX8 := Lib.hid (HX7.out.later hb); have HO8 := Lib.hid (HO7.out.later hb); have HB8 := Lib.hid (HB7.out.trans (hb.mono HB7.out.size)); clear hb HX7 HO7 HB7; obtain ⟨z0, z1, z2, z3, z4, z5, z6, z7, z8⟩ := HX8.out.nine; obtain ⟨f0, f1, f2, f3, f4, f5, f6, f7, f8⟩ := HX8.out.ninef)
              clear z0 z1 z2 z3 z4 z5 z6 z7 z8 f0 f1 f2 f3 f4 f5 f6 f7 f8
              have HX9 := Lib.hid (HX8.out.nine_set (.int .i64 2) (.string ⟨#[]⟩) (.string ⟨#[]⟩) (.string p) (.bool false) (.int .i64 0) (.int .i64 0) (.int .i64 0) (.slice none 0 0)).1
              have HO9 := Lib.hid (row_nine HO8.out HNX.out (.int .i64 2) (.string ⟨#[]⟩) (.string ⟨#[]⟩) (.string p) (.bool false) (.int .i64 0) (.int .i64 0) (.int .i64 0) (.slice none 0 0))
              have HB9 := Lib.hid (below_nine HB8.out HXL.out (.int .i64 2) (.string ⟨#[]⟩) (.string ⟨#[]⟩) (.string p) (.bool false) (.int .i64 0) (.int .i64 0) (.int .i64 0) (.slice none 0 0))
              clear HX8 HO8 HB8 c2
              revert HX9 HO9 HB9
              generalize ((((((((w8.setCell ⟨X, 0, none⟩ (.int .i64 2)).setCell ⟨X, 1, none⟩ (.string ⟨#[]⟩)).setCell ⟨X, 2, none⟩ (.string ⟨#[]⟩)).setCell ⟨X, 3, none⟩ (.string p)).setCell ⟨X, 4, none⟩ (.bool false)).setCell ⟨X, 5, none⟩ (.int .i64 0)).setCell ⟨X, 6, none⟩ (.int .i64 0)).setCell ⟨X, 7, none⟩ (.int .i64 0)).setCell ⟨X, 8, none⟩ (.slice none 0 0) = w9
              intro HX9 HO9 HB9
              obtain ⟨z0, z1, z2, z3, z4, z5, z6, z7, z8⟩ := HX9.out.nine
              go_wp2_with (at_builtin; go_loud (refine wp_row1 24 26 9 112 csV _ Tryz.underlying24 val_info rfl (by decide) csV_one rfl _ _ rfl wc.heap.size _ LK rfl HO9.out (tV p) _ ?_ rfl (by omega) (by unfold maxLen; omega) HB9.out.size ?_); (rfl); intro v4 wa ho hb hg; have HOa := Lib.hid ho; have HBa := Lib.hid (HB9.out.trans hb); clear ho hb hg HO9 HB9 z0 z1 z2 z3 z4 z5 z6 z7 z8)
              go_roundw
              case rel => exact ⟨_, k + 1, by omega, rfl, by go_num, HBa, by rw [HPS.out]; exact HOa⟩
              case measure => simp [intOf]; omega
            · obtain rfl : k = m := by omega
              go_wp2_with fail
              go_roundw
              case rel => exact ⟨v, rfl, HB, .inr ⟨by go_num, by rw [List.take_of_length_le (Nat.le_of_eq HMM.out)] at HO; exact HO⟩⟩
              case measure => simp [intOf]
        · go_wp2_with fail
          go_meet
          exact ⟨v, rfl, HO, HB⟩
    case rest =>
      obtain ⟨v, rfl, HO, HB⟩ := hcut
      have hlm : ((pcs (tx cs) (tx ds)).map tV).length = m := by rw [List.length_map]; exact HMM.out
      obtain ⟨gi, ci, rfl, hg1⟩ : ∃ gi ci, v = .slice (some ⟨gi, 0, none⟩) m ci ∧ r < gi := by
        obtain ⟨gi, ci, e, h1, h2⟩ := HO.out.form (by omega)
        rw [hlm] at e
        exact ⟨gi, ci, e, Nat.lt_of_lt_of_le HRM.out.lt h1⟩
      have hrd := HO.out.reads fun x => (csV_one x).1
      have HRD := Lib.hid hrd
      have HBx := Lib.hid (HBM.out.trans (HB.out.mono HBM.out.size))
      have HCx := Lib.hid (HCM.out.next (Chg.of HB.out [q]))
      have HRx := Lib.hid (HRM.out.later HB.out)
      have HGI := Lib.hid hg1
      clear hrd HO HB HBM HCM HRM HG HP hg1 hlm
      go_upto_region 99 with (go_at_call 134; (with_reducible refine (HTB.out _ _ _ _).mono ?_); rintro e w5 ⟨rfl, hb⟩; have HC5 := Lib.hid (HCx.out.next (Chg.of hb [q])); have HR5 := Lib.hid (HRx.out.later hb); have HD5 := Lib.hid (HRD.out.below hb); clear hb HBx HCx HRx HRD; obtain ⟨f0, f1, f2, f3, f4, f5, f6, f7, f8⟩ := HR5.out.ninef; obtain ⟨z0, z1, z2, z3, z4, z5, z6, z7, z8⟩ := HR5.out.nine)
      clear f0 f1 f2 f3 f4 f5 f6 f7 f8 z0 z1 z2 z3 z4 z5 z6 z7 z8
      obtain ⟨q0, q1, q2, q3, q4, q5, q6, q7, q8⟩ := (HR5.out.nine_set (.int .i64 5) (.string ⟨#[]⟩) (.string ⟨#[]⟩) (.string ⟨#[]⟩) (.bool false) (.int .i64 0) (.int .i64 1) (.int .i64 (m : Int)) (.slice (some ⟨gi, 0, none⟩) m ci)).1.nine
      have hcn := chg_nine w5 r (.int .i64 5) (.string ⟨#[]⟩) (.string ⟨#[]⟩) (.string ⟨#[]⟩) (.bool false) (.int .i64 0) (.int .i64 1) (.int .i64 (m : Int)) (.slice (some ⟨gi, 0, none⟩) m ci)
      refine bodyPost_ret (v := .agg #[.int .i64 5, .string ⟨#[]⟩, .string ⟨#[]⟩, .string ⟨#[]⟩, .bool false, .int .i64 0, .int .i64 1, .int .i64 (m : Int), .slice (some ⟨gi, 0, none⟩) m ci]) (by simp [results, Tryz.results83, go_sem, q0, q1, q2, q3, q4, q5, q6, q7, q8]) rfl ⟨5, ⟨#[]⟩, ⟨#[]⟩, ⟨#[]⟩, false, 0, 1, (m : Int), some ⟨gi, 0, none⟩, m, ci, (pcs (tx cs) (tx ds)).map tV, rfl, ⟨by rw [HMM.out], rfl⟩, reads_same2 HD5.out hcn.size (fun b o e hb => hcn.block b hb (by
        injection e with e
        injection e with e1
        have h := HGI.out
        rw [List.mem_singleton]
        omega)), fun b o e => .inr (by
        injection e with e
        injection e with e1
        have h := HGI.out
        have h2 := HH.out
        omega), HC5.out.trans (hcn.mono HC5.out.size fun x hx => .inr (by
        rw [List.mem_singleton.1 hx, HH.out]
        exact Nat.le_refl _))⟩
end Go.Proofs.YtcnlonaighlmbaaGreatDoor
