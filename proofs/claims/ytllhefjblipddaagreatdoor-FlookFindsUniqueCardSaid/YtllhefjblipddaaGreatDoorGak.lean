/- flook: the arguments, one after the other; an array and a value. -/
import Derived.Test.YtllhefjblipddaaGreatDoorGac
import Derived.Test.YtllhefjblipddaaGreatDoorGah
import Derived.Deep.QuietTactic
import Derived.BigQuiet
import Derived.Test.YtllhefjblipddaaGreatDoorRow
import Derived.Test.YtllhefjblipddaaGreatDoorGaj
import Derived.Deep.RegionLaw
set_option linter.unusedSimpArgs false
set_option linter.unusedVariables false
namespace Go.Proofs.YtllhefjblipddaaGreatDoor
open Go.RowKit

theorem more_any (q : Nat) (A : Option Addr) (n c k : Nat) (W : World) (hq : Blk W q 90 #[.slice A n c, .int .i64 (k : Int)]) (b : Bool) (hb : b = decide (k < n)) : Calls Tryz.prog 82 #[.pointer (some ⟨q, 0, none⟩)] W fun e w' => e = .returned (.bool b) ∧ Below W.heap.size W w' := by
  have c0 := hq.cell 0
  have c1 := hq.cell 1
  simp only [List.getElem?_toArray, List.getElem?_cons_succ, List.getElem?_cons_zero] at c0 c1
  have mixed : Tryz.prog.follows Departure.mixedOrders = true := by kernel_rfl
  by_cases h : k < n
  · have hz : (k : Int) < (n : Int) := by omega
    obtain rfl : b = true := by rw [hb]; exact decide_eq_true h
    clear hb h
    go_enter Tryz.func82, Tryz.ntmps82
    go_wp2_with fail
    go_quiet (fail)
    go_wp2_with fail
    go_ret
    exact ⟨rfl, ⟨rfl, rfl, rfl, Nat.le_refl _, fun _ _ => rfl⟩⟩
  · have hz : ¬ (k : Int) < (n : Int) := by omega
    obtain rfl : b = false := by rw [hb]; exact decide_eq_false h
    have HH := Lib.hid h
    clear hb h
    go_enter Tryz.func82, Tryz.ntmps82
    go_wp2_with fail
    go_quiet (fail)
    go_wp2_with fail
    go_ret
    exact ⟨congrArg (fun b => Ending.returned (Value.bool b)) (decide_eq_false HH.out), ⟨rfl, rfl, rfl, Nat.le_refl _, fun _ _ => rfl⟩⟩
set_option maxRecDepth 100000 in
set_option maxHeartbeats 4000000 in
theorem value_at (q : Nat) (A : Option Addr) (n c k : Nat) (avs : List Vl) (W : World) (hq : Blk W q 90 #[.slice A n c, .int .i64 (k : Int)]) (hA : Reads 9 (fun u : Vl => u.cs.toList) W (.slice A n c) avs) (hk : k < n) (hn : n ≤ 1000) (hne : ∀ b o, A = some ⟨b, o, none⟩ → b ≠ q) : Calls Tryz.prog 39 #[.pointer (some ⟨q, 0, none⟩)] W fun e w' => e = .returned (avs[k]!.v) ∧ Blk w' q 90 #[.slice A n c, .int .i64 ((k : Int) + 1)] ∧ Chg W.heap.size [q] W w' := by
  have hl : avs.length = n := by
    obtain ⟨A', c', e, -⟩ := hA
    injection e with e1 e2 e3
    exact e2.symm
  obtain ⟨b, o, rfl, hb, hc⟩ : ∃ b o, A = some ⟨b, o, none⟩ ∧ b < W.heap.size ∧ ∀ j, j < 9 → W.cell? ⟨b, o + (k * 9 + j), none⟩ = avs[k]!.cs.toList[j]? := by
    obtain ⟨A', c', e, -, -, h3⟩ := hA
    injection e with e1 e2 e3
    obtain ⟨b, o, e4, hb, hc⟩ := h3 (by omega)
    refine ⟨b, o, e1.trans e4, hb, fun j hj => ?_⟩
    have := hc k (by omega) j hj
    rw [getElem!_pos avs k (by omega)]
    exact this
  have hbq := hne b o rfl
  obtain ⟨u, hu⟩ : ∃ u, u = avs[k]! := ⟨_, rfl⟩
  rw [← hu] at hc
  rw [← hu]
  clear hu hA hne hl
  obtain ⟨uk, unum, uden, utext, uon, ucode, urows, ucols, uA, un, uc⟩ := u
  have hqlt := hq.lt
  have HCS := Lib.hid (show ∀ W', Chg W.heap.size [q] W W' → W'.cell? ⟨b, o + k * 9, none⟩ = some (.int .i64 uk) ∧ W'.cell? ⟨b, o + k * 9 + 1, none⟩ = some (.string unum) ∧ W'.cell? ⟨b, o + k * 9 + 2, none⟩ = some (.string uden) ∧ W'.cell? ⟨b, o + k * 9 + 3, none⟩ = some (.string utext) ∧ W'.cell? ⟨b, o + k * 9 + 4, none⟩ = some (.bool uon) ∧ W'.cell? ⟨b, o + k * 9 + 5, none⟩ = some (.int .i64 ucode) ∧ W'.cell? ⟨b, o + k * 9 + 6, none⟩ = some (.int .i64 urows) ∧ W'.cell? ⟨b, o + k * 9 + 7, none⟩ = some (.int .i64 ucols) ∧ W'.cell? ⟨b, o + k * 9 + 8, none⟩ = some (.slice uA un uc) from fun W' h => by
    have g : ∀ j, j < 9 → W'.cell? ⟨b, o + k * 9 + j, none⟩ = (Vl.cs ⟨uk, unum, uden, utext, uon, ucode, urows, ucols, uA, un, uc⟩).toList[j]? := fun j hj => by
      rw [Nat.add_assoc]
      exact (World.cell?_of_block (h.block b hb (by simpa using hbq))).trans (hc j hj)
    exact ⟨g 0 (by decide), g 1 (by decide), g 2 (by decide), g 3 (by decide), g 4 (by decide), g 5 (by decide), g 6 (by decide), g 7 (by decide), g 8 (by decide)⟩)
  have HMO := Lib.hid fun W' (h : Blk W' q 90 #[.slice (some ⟨b, o, none⟩) n c, .int .i64 (k : Int)]) => more_any q (some ⟨b, o, none⟩) n c k W' h true (by simp [hk])
  have HQ := Lib.hid hq
  clear hc hq hbq
  have k1 : IntKind.i64.wrap ((k : Int) + 1) = (k : Int) + 1 := IntWalk.i64_in _ (by omega)
  have k2 : IntKind.i64.wrap ((k : Int) + 1 - 1) = (k : Int) := by rw [IntWalk.i64_in _ (by omega)]; omega
  go_enter Tryz.func39, Tryz.ntmps39
  go_upto_region 3 with (go_at_call 82; (with_reducible refine (HMO.out _ (HQ.out.alloc _)).mono ?_); rintro e w1 ⟨rfl, hb1⟩; have HB1 := Lib.hid hb1; clear hb1)
  have HR1 := Lib.hid ((Blk.new W 27 #[.int .i64 0, .string ⟨#[]⟩, .string ⟨#[]⟩, .string ⟨#[]⟩, .bool false, .int .i64 0, .int .i64 0, .int .i64 0, .slice none 0 0]).later HB1.out)
  have HQ1 := Lib.hid ((HQ.out.alloc (.cells #[.int .i64 0, .string ⟨#[]⟩, .string ⟨#[]⟩, .string ⟨#[]⟩, .bool false, .int .i64 0, .int .i64 0, .int .i64 0, .slice none 0 0] 27)).later HB1.out)
  have HC1 := Lib.hid (Chg.of (((Below.refl W.heap.size W).alloc (Nat.le_refl _) (.cells #[.int .i64 0, .string ⟨#[]⟩, .string ⟨#[]⟩, .string ⟨#[]⟩, .bool false, .int .i64 0, .int .i64 0, .int .i64 0, .slice none 0 0] 27)).trans (HB1.out.mono (by simp))) [q])
  obtain ⟨r, hr⟩ : ∃ r, r = W.heap.size := ⟨_, rfl⟩
  have hrq : r ≠ q := by omega
  rw [← hr] at HR1
  rw [← hr]
  have HRR := Lib.hid hr
  clear hr HB1 HQ HMO
  have q0 := HQ1.out.cell 0
  have q1 := HQ1.out.cell 1
  have qf := HQ1.out.frozen 1
  simp only [List.getElem?_toArray, List.getElem?_cons_succ, List.getElem?_cons_zero] at q0 q1
  have HQ3 := Lib.hid (HQ1.out.set_ 1 (.int .i64 ((k : Int) + 1)))
  have HR3 := Lib.hid (HR1.out.far (p := ⟨q, 1, none⟩) (by exact hrq) (.int .i64 ((k : Int) + 1)))
  have HC3 := Lib.hid (HC1.out.set (p := ⟨q, 1, none⟩) (.inl (List.mem_singleton.2 rfl)) (.int .i64 ((k : Int) + 1)))
  go_upto_region 4 with fail
  clear q0 q1 qf HQ1 HR1 HC1
  revert HQ3 HR3 HC3
  generalize w1.setCell ⟨q, 1, none⟩ (.int .i64 ((k : Int) + 1)) = W3
  intro HQ3 HR3 HC3
  have q0 : W3.cell? ⟨q, 0, none⟩ = some (.slice (some ⟨b, o, none⟩) n c) := HQ3.out.cell 0
  have q1 : W3.cell? ⟨q, 1, none⟩ = some (.int .i64 ((k : Int) + 1)) := HQ3.out.cell 1
  obtain ⟨u0, u1, u2, u3, u4, u5, u6, u7, u8⟩ := HCS.out W3 HC3.out
  obtain ⟨z0, z1, z2, z3, z4, z5, z6, z7, z8⟩ := HR3.out.nine
  obtain ⟨f0, f1, f2, f3, f4, f5, f6, f7, f8⟩ := HR3.out.ninef
  have hkz : (k : Int) < (n : Int) := by omega
  have hk0 : 0 ≤ (k : Int) := by omega
  have mixed : Tryz.prog.follows Departure.mixedOrders = true := by kernel_rfl
  go_big_region_o
  clear q0 q1 u0 u1 u2 u3 u4 u5 u6 u7 u8 z0 z1 z2 z3 z4 z5 z6 z7 z8 f0 f1 f2 f3 f4 f5 f6 f7 f8
  go_upto_region 99 with fail
  obtain ⟨bs, s0, s1, s2, s3, s4, s5, s6, s7, s8⟩ := HR3.out.nine_set (.int .i64 uk) (.string unum) (.string uden) (.string utext) (.bool uon) (.int .i64 ucode) (.int .i64 urows) (.int .i64 ucols) (.slice uA un uc)
  have BS := Lib.hid bs
  have hrl : W.heap.size ≤ r := by rw [HRR.out]; exact Nat.le_refl _
  have hqr : q ≠ r := fun e => hrq e.symm
  have HQF := Lib.hid ((((((((((HQ3.out.far (p := ⟨r, 0, none⟩) (by exact hqr) (.int .i64 uk)).far (p := ⟨r, 1, none⟩) (by exact hqr) (.string unum)).far (p := ⟨r, 2, none⟩) (by exact hqr) (.string uden)).far (p := ⟨r, 3, none⟩) (by exact hqr) (.string utext)).far (p := ⟨r, 4, none⟩) (by exact hqr) (.bool uon)).far (p := ⟨r, 5, none⟩) (by exact hqr) (.int .i64 ucode)).far (p := ⟨r, 6, none⟩) (by exact hqr) (.int .i64 urows)).far (p := ⟨r, 7, none⟩) (by exact hqr) (.int .i64 ucols)).far (p := ⟨r, 8, none⟩) (by exact hqr) (.slice uA un uc)))
  have HCF := Lib.hid ((((((((((HC3.out.set (p := ⟨r, 0, none⟩) (.inr (by exact hrl)) (.int .i64 uk)).set (p := ⟨r, 1, none⟩) (.inr (by exact hrl)) (.string unum)).set (p := ⟨r, 2, none⟩) (.inr (by exact hrl)) (.string uden)).set (p := ⟨r, 3, none⟩) (.inr (by exact hrl)) (.string utext)).set (p := ⟨r, 4, none⟩) (.inr (by exact hrl)) (.bool uon)).set (p := ⟨r, 5, none⟩) (.inr (by exact hrl)) (.int .i64 ucode)).set (p := ⟨r, 6, none⟩) (.inr (by exact hrl)) (.int .i64 urows)).set (p := ⟨r, 7, none⟩) (.inr (by exact hrl)) (.int .i64 ucols)).set (p := ⟨r, 8, none⟩) (.inr (by exact hrl)) (.slice uA un uc)))
  clear bs HQ3 HC3 HR3 hrl hqr hrq HCS
  refine bodyPost_ret (v := .agg #[.int .i64 uk, .string unum, .string uden, .string utext, .bool uon, .int .i64 ucode, .int .i64 urows, .int .i64 ucols, .slice uA un uc]) (by simp [results, Tryz.results39, go_sem, s0, s1, s2, s3, s4, s5, s6, s7, s8]) rfl ⟨rfl, HQF.out.drew, HCF.out.drew⟩
end Go.Proofs.YtllhefjblipddaaGreatDoor

namespace Go.Proofs.YtllhefjblipddaaGreatDoor
open Go.RowKit

/-- An array as a value; as flook's array. -/
abbrev aV (r c : Int) (A : Option Addr) (n cc : Nat) : Value := .agg #[.int .i64 5, .string ⟨#[]⟩, .string ⟨#[]⟩, .string ⟨#[]⟩, .bool false, .int .i64 0, .int .i64 r, .int .i64 c, .slice A n cc]
abbrev gV (r c : Int) (A : Option Addr) (n cc : Nat) : Value := .agg #[.int .i64 r, .int .i64 c, .slice A n cc]
theorem below_al (W : World) (o : Obj) : Below W.heap.size W (W.alloc o) := (Below.refl _ _).alloc (Nat.le_refl _) _
theorem below_dn {B : Nat} {W W' : World} (h : Below B W W') (n : Nat) : Below B W (W'.drewN n) := ⟨h.os, h.tape, h.output, h.size, h.block⟩
set_option maxRecDepth 100000 in
theorem size_a (r c : Int) (A : Option Addr) (n cc : Nat) (W : World) : Calls Tryz.prog 86 #[aV r c A n cc] W fun e w' => e = .returned (.tuple #[.int .i64 r, .int .i64 c]) ∧ Below W.heap.size W w' := by
  have mixed : Tryz.prog.follows Departure.mixedOrders = true := by kernel_rfl
  go_enter Tryz.func86, Tryz.ntmps86
  go_upto_region 2 with fail
  go_quiet (fail)
  go_wp2_with fail
  go_ret2
  exact ⟨rfl, below_dn (below_al _ _) _⟩
set_option maxRecDepth 100000 in
theorem list_a (r c : Int) (A : Option Addr) (n cc : Nat) (W : World) : Calls Tryz.prog 87 #[aV r c A n cc] W fun e w' => e = .returned (.slice A n cc) ∧ Below W.heap.size W w' := by
  go_enter Tryz.func87, Tryz.ntmps87
  go_wp2_with fail
  go_ret
  exact ⟨rfl, below_al _ _⟩
theorem stop_f (code : Int) (W : World) : Calls Tryz.prog 81 #[.bool false, .int .i64 code] W fun e w' => e = .returned (.tuple #[]) ∧ W = w' := by
  go_enter Tryz.func81, Tryz.ntmps81
  go_wp2_with fail
  go_end0
  exact ⟨rfl, rfl⟩
theorem stop_0 (W : World) : Calls Tryz.prog 96 #[.int .i64 0] W fun e w' => e = .returned (.tuple #[]) ∧ W = w' := by
  go_enter Tryz.func96, Tryz.ntmps96
  go_wp2_with fail
  go_end0
  exact ⟨rfl, rfl⟩
set_option maxRecDepth 100000 in
theorem grid_a (r c : Int) (A : Option Addr) (n cc : Nat) (W : World) : Calls Tryz.prog 38 #[aV r c A n cc] W fun e w' => e = .returned (gV r c A n cc) ∧ Below W.heap.size W w' := by
  have HL0 := Lib.hid (((Loc.start W).alloc' rfl 27 #[.int .i64 5, .string ⟨#[]⟩, .string ⟨#[]⟩, .string ⟨#[]⟩, .bool false, .int .i64 0, .int .i64 r, .int .i64 c, .slice A n cc]).alloc' (g := W.heap.size + 1) (by simp) 69 #[.int .i64 0, .int .i64 0, .slice none 0 0])
  go_enter Tryz.func38, Tryz.ntmps38
  go_upto_region 2 with (go_at_call 86; (with_reducible refine (size_a _ _ _ _ _ _).mono ?_); rintro e w1 ⟨rfl, hb⟩; have HL1 := Lib.hid (HL0.out.step hb); clear hb HL0)
  obtain ⟨k0, k1, k2, k3, k4, k5, k6, k7, k8⟩ := (HL1.out.blk (g := W.heap.size) (t := 27) (cs := #[.int .i64 5, .string ⟨#[]⟩, .string ⟨#[]⟩, .string ⟨#[]⟩, .bool false, .int .i64 0, .int .i64 r, .int .i64 c, .slice A n cc]) (by simp)).nine
  go_upto_region 99 with (go_at_call 87; (with_reducible refine (list_a _ _ _ _ _ _).mono ?_); rintro e w2 ⟨rfl, hb⟩; have HL2 := Lib.hid (HL1.out.step hb); clear hb HL1 k0 k1 k2 k3 k4 k5 k6 k7 k8; obtain ⟨z0, z1, z2, z3, z4, z5⟩ := (HL2.out.blk (g := W.heap.size + 1) (t := 69) (cs := #[.int .i64 0, .int .i64 0, .slice none 0 0]) (by simp)).three)
  have bs := ((HL2.out.blk (g := W.heap.size + 1) (t := 69) (cs := #[.int .i64 0, .int .i64 0, .slice none 0 0]) (by simp)).three_set (.int .i64 r) (.int .i64 c) (.slice A n cc)).1.three
  obtain ⟨q0, q1, q2, -⟩ := bs
  refine bodyPost_ret (v := gV r c A n cc) (by simp [results, Tryz.results38, go_sem, q0, q1, q2]) rfl ⟨rfl, below_three HL2.out.bel (by omega) _ _ _⟩
set_option maxRecDepth 100000 in
theorem tbl_a (r c : Int) (A : Option Addr) (n cc : Nat) (W : World) (h1 : 1 ≤ r) (h2 : r ≤ 1000) (h3 : 1 ≤ c) (h4 : c ≤ 100) : Calls Tryz.prog 88 #[.int .i64 r, .int .i64 c, .slice A n cc] W fun e w' => e = .returned (aV r c A n cc) ∧ Below W.heap.size W w' := by
  have HL0 := Lib.hid ((Loc.start W).alloc' rfl 27 #[.int .i64 0, .string ⟨#[]⟩, .string ⟨#[]⟩, .string ⟨#[]⟩, .bool false, .int .i64 0, .int .i64 0, .int .i64 0, .slice none 0 0])
  have d1 : ¬ r < 1 := by omega
  have d2 : ¬ c < 1 := by omega
  have d3 : ¬ (100000 : Int) < r := by omega
  have d4 : ¬ r = 0 := by omega
  obtain ⟨dd, hdd, d5⟩ : ∃ dd : Int, IntKind.i64.wrap ((100000 : Int).tdiv r) = dd ∧ ¬ dd < c := by
    have e2 : (100000 : Int).tdiv r = 100000 / r := Int.tdiv_eq_ediv_of_nonneg (by decide)
    have e3 : (100 : Int) ≤ 100000 / r := by
      rw [Int.le_ediv_iff_mul_le (by omega)]
      omega
    have e4 : 100000 / r ≤ 100000 := Int.ediv_le_self _ (by decide)
    exact ⟨_, rfl, by rw [e2, IntWalk.i64_in _ (by omega)]; omega⟩
  go_enter Tryz.func88, Tryz.ntmps88
  obtain ⟨f0, f1, f2, f3, f4, f5, f6, f7, f8⟩ := (HL0.out.blk (g := W.heap.size) (t := 27) (cs := #[.int .i64 0, .string ⟨#[]⟩, .string ⟨#[]⟩, .string ⟨#[]⟩, .bool false, .int .i64 0, .int .i64 0, .int .i64 0, .slice none 0 0]) (by simp)).ninef
  go_upto_region 99 with fail
  clear f0 f1 f2 f3 f4 f5 f6 f7 f8 HL0
  obtain ⟨q0, q1, q2, q3, q4, q5, q6, q7, q8⟩ := (Blk.new W 27 #[.int .i64 5, .string ⟨#[]⟩, .string ⟨#[]⟩, .string ⟨#[]⟩, .bool false, .int .i64 0, .int .i64 r, .int .i64 c, .slice A n cc]).nine
  refine bodyPost_ret (v := aV r c A n cc) (by simp [results, Tryz.results88, go_sem, q0, q1, q2, q3, q4, q5, q6, q7, q8]) rfl ⟨rfl, below_al _ _⟩
set_option maxRecDepth 100000 in
theorem gval_a (r c : Int) (A : Option Addr) (n cc : Nat) (W : World) (h1 : 1 ≤ r) (h2 : r ≤ 1000) (h3 : 1 ≤ c) (h4 : c ≤ 100) : Calls Tryz.prog 43 #[gV r c A n cc] W fun e w' => e = .returned (aV r c A n cc) ∧ Below W.heap.size W w' := by
  have HL0 := Lib.hid (((Loc.start W).alloc' rfl 69 #[.int .i64 r, .int .i64 c, .slice A n cc]).alloc' (g := W.heap.size + 1) (by simp) 27 #[.int .i64 0, .string ⟨#[]⟩, .string ⟨#[]⟩, .string ⟨#[]⟩, .bool false, .int .i64 0, .int .i64 0, .int .i64 0, .slice none 0 0])
  have d1 : ¬ r < 1 := by omega
  have d2 : ¬ c < 1 := by omega
  have HTB := Lib.hid fun W => tbl_a r c A n cc W h1 h2 h3 h4
  go_enter Tryz.func43, Tryz.ntmps43
  go_upto_region 2 with (go_at_call 81; (with_reducible refine (stop_f _ _).mono ?_); rintro e w1 ⟨rfl, rfl⟩)
  go_upto_region 99 with (go_at_call 88; (with_reducible refine (HTB.out _).mono ?_); rintro e w2 ⟨rfl, hb⟩; have HL2 := Lib.hid (HL0.out.step hb); clear hb HL0; obtain ⟨f0, f1, f2, f3, f4, f5, f6, f7, f8⟩ := (HL2.out.blk (g := W.heap.size + 1) (t := 27) (cs := #[.int .i64 0, .string ⟨#[]⟩, .string ⟨#[]⟩, .string ⟨#[]⟩, .bool false, .int .i64 0, .int .i64 0, .int .i64 0, .slice none 0 0]) (by simp)).ninef; obtain ⟨z0, z1, z2, z3, z4, z5, z6, z7, z8⟩ := (HL2.out.blk (g := W.heap.size + 1) (t := 27) (cs := #[.int .i64 0, .string ⟨#[]⟩, .string ⟨#[]⟩, .string ⟨#[]⟩, .bool false, .int .i64 0, .int .i64 0, .int .i64 0, .slice none 0 0]) (by simp)).nine)
  clear f0 f1 f2 f3 f4 f5 f6 f7 f8 z0 z1 z2 z3 z4 z5 z6 z7 z8
  obtain ⟨bs, q0, q1, q2, q3, q4, q5, q6, q7, q8⟩ := (HL2.out.blk (g := W.heap.size + 1) (t := 27) (cs := #[.int .i64 0, .string ⟨#[]⟩, .string ⟨#[]⟩, .string ⟨#[]⟩, .bool false, .int .i64 0, .int .i64 0, .int .i64 0, .slice none 0 0]) (by simp)).nine_set (.int .i64 5) (.string ⟨#[]⟩) (.string ⟨#[]⟩) (.string ⟨#[]⟩) (.bool false) (.int .i64 0) (.int .i64 r) (.int .i64 c) (.slice A n cc)
  obtain ⟨q0, q1, q2, q3, q4, q5, q6, q7, q8⟩ := bs.nine
  refine bodyPost_ret (v := aV r c A n cc) (by simp [results, Tryz.results43, go_sem, q0, q1, q2, q3, q4, q5, q6, q7, q8]) rfl ⟨rfl, below_nine HL2.out.bel (by omega) _ _ _ _ _ _ _ _ _⟩
end Go.Proofs.YtllhefjblipddaaGreatDoor
