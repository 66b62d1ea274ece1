/- formulas: the arguments, one after the other; blocks. -/
import Derived.Test.YtcnlonaighlmbaaGreatDoorHae
import Derived.Test.YtcnlonaighlmbaaGreatDoorHai
import Derived.Test.YtcnlonaighlmbaaGreatDoorRow
import Derived.Test.YtcnlonaighlmbaaGreatDoorHaa
import Derived.Test.YtcnlonaighlmbaaGreatDoorLoc
import Derived.Deep.QuietTactic
import Derived.BigQuiet
import Derived.Deep.RegionLaw
import Derived.Deep.Cut
import Derived.Deep.CutBlock
import Derived.Deep.DeepCutAuto
import Derived.StillTailTactics
set_option linter.unusedSimpArgs false
set_option linter.unusedVariables false
namespace Go.Proofs.YtcnlonaighlmbaaGreatDoor
open Go.RowKit

theorem more_any (q : Nat) (A : Option Addr) (n c k : Nat) (W : World) (hq : Blk W q 120 #[.slice A n c, .int .i64 (k : Int)]) (b : Bool) (hb : b = decide (k < n)) : Calls Tryz.prog 119 #[.pointer (some ⟨q, 0, none⟩)] W fun e w' => e = .returned (.bool b) ∧ Below W.heap.size W w' := by
  have c0 := hq.cell 0
  have c1 := hq.cell 1
  simp only [List.getElem?_toArray, List.getElem?_cons_succ, List.getElem?_cons_zero] at c0 c1
  have mixed : Tryz.prog.follows Departure.mixedOrders = true := by kernel_rfl
  by_cases h : k < n
  · have hz : (k : Int) < (n : Int) := by omega
    obtain rfl : b = true := by rw [hb]; exact decide_eq_true h
    clear hb h
    go_enter Tryz.func119, Tryz.ntmps119
    go_wp2_with fail
    go_quiet (fail)
    go_wp2_with fail
    go_ret
    exact ⟨rfl, ⟨rfl, rfl, rfl, Nat.le_refl _, fun _ _ => rfl⟩⟩
  · have hz : ¬ (k : Int) < (n : Int) := by omega
    obtain rfl : b = false := by rw [hb]; exact decide_eq_false h
    have HH := Lib.hid h
    clear hb h
    go_enter Tryz.func119, Tryz.ntmps119
    go_wp2_with fail
    go_quiet (fail)
    go_wp2_with fail
    go_ret
    exact ⟨congrArg (fun b => Ending.returned (Value.bool b)) (decide_eq_false HH.out), ⟨rfl, rfl, rfl, Nat.le_refl _, fun _ _ => rfl⟩⟩
set_option maxRecDepth 100000 in
set_option maxHeartbeats 4000000 in
theorem value_at (q : Nat) (A : Option Addr) (n c k : Nat) (avs : List Vl) (W : World) (hq : Blk W q 120 #[.slice A n c, .int .i64 (k : Int)]) (hA : Reads 9 (fun u : Vl => u.cs.toList) W (.slice A n c) avs) (hk : k < n) (hn : n ≤ 1000) (hne : ∀ b o, A = some ⟨b, o, none⟩ → b ≠ q) : Calls Tryz.prog 107 #[.pointer (some ⟨q, 0, none⟩)] W fun e w' => e = .returned (avs[k]!.v) ∧ Blk w' q 120 #[.slice A n c, .int .i64 ((k : Int) + 1)] ∧ Chg W.heap.size [q] W w' := by
  have hl : avs.length = n := by
    obtain ⟨A', c', e, -⟩ := hA
    injection e with e1 e2 e3
    exact e2.symm
  obtain ⟨b, o, rfl, hb, hc⟩ : ∃ b o, A = some ⟨b, o, none⟩ ∧ b < W.heap.size ∧ ∀ j, j < 9 → W.cell? ⟨b, o + (k * 9 + j), none⟩ = avs[k]!.cs.toList[j]? := by
    obtain ⟨A', c', e, -, -, h3⟩ := hA
    injection e with e1 e2 e3
    obtain ⟨b, o, e4, hb, hc⟩ := h3 (by omega)
    refine ⟨b, o, e1.trans e4, hb, fun j hj => ?_⟩
    have := hc k (by omega) j hj
    rw [getElem!_pos avs k (by omega)]
    exact this
  have hbq := hne b o rfl
  obtain ⟨u, hu⟩ : ∃ u, u = avs[k]! := ⟨_, rfl⟩
  rw [← hu] at hc
  rw [← hu]
  clear hu hA hne hl
  obtain ⟨uk, unum, uden, utext, uon, ucode, urows, ucols, uA, un, uc⟩ := u
  have hqlt := hq.lt
  have HCS := Lib.hid (show ∀ W', Chg W.heap.size [q] W W' → W'.cell? ⟨b, o + k * 9, none⟩ = some (.int .i64 uk) ∧ W'.cell? ⟨b, o + k * 9 + 1, none⟩ = some (.string unum) ∧ W'.cell? ⟨b, o + k * 9 + 2, none⟩ = some (.string uden) ∧ W'.cell? ⟨b, o + k * 9 + 3, none⟩ = some (.string utext) ∧ W'.cell? ⟨b, o + k * 9 + 4, none⟩ = some (.bool uon) ∧ W'.cell? ⟨b, o + k * 9 + 5, none⟩ = some (.int .i64 ucode) ∧ W'.cell? ⟨b, o + k * 9 + 6, none⟩ = some (.int .i64 urows) ∧ W'.cell? ⟨b, o + k * 9 + 7, none⟩ = some (.int .i64 ucols) ∧ W'.cell? ⟨b, o + k * 9 + 8, none⟩ = some (.slice uA un uc) from fun W' h => by
    have g : ∀ j, j < 9 → W'.cell? ⟨b, o + k * 9 + j, none⟩ = (Vl.cs ⟨uk, unum, uden, utext, uon, ucode, urows, ucols, uA, un, uc⟩).toList[j]? := fun j hj => by
      rw [Nat.add_assoc]
      exact (World.cell?_of_block (h.block b hb (by simpa using hbq))).trans (hc j hj)
    exact ⟨g 0 (by decide), g 1 (by decide), g 2 (by decide), g 3 (by decide), g 4 (by decide), g 5 (by decide), g 6 (by decide), g 7 (by decide), g 8 (by decide)⟩)
  have HMO := Lib.hid fun W' (h : Blk W' q 120 #[.slice (some ⟨b, o, none⟩) n c, .int .i64 (k : Int)]) => more_any q (some ⟨b, o, none⟩) n c k W' h true (by simp [hk])
  have HQ := Lib.hid hq
  clear hc hq hbq
  have k1 : IntKind.i64.wrap ((k : Int) + 1) = (k : Int) + 1 := IntWalk.i64_in _ (by omega)
  have k2 : IntKind.i64.wrap ((k : Int) + 1 - 1) = (k : Int) := by rw [IntWalk.i64_in _ (by omega)]; omega
  go_enter Tryz.func107, Tryz.ntmps107
  go_upto_region 3 with (go_at_call 119; (with_reducible refine (HMO.out _ (HQ.out.alloc _)).mono ?_); rintro e w1 ⟨rfl, hb1⟩; have HB1 := Lib.hid hb1; clear hb1)
  have HR1 := Lib.hid ((Blk.new W 26 #[.int .i64 0, .string ⟨#[]⟩, .string ⟨#[]⟩, .string ⟨#[]⟩, .bool false, .int .i64 0, .int .i64 0, .int .i64 0, .slice none 0 0]).later HB1.out)
  have HQ1 := Lib.hid ((HQ.out.alloc (.cells #[.int .i64 0, .string ⟨#[]⟩, .string ⟨#[]⟩, .string ⟨#[]⟩, .bool false, .int .i64 0, .int .i64 0, .int .i64 0, .slice none 0 0] 26)).later HB1.out)
  have HC1 := Lib.hid (Chg.of (((Below.refl W.heap.size W).alloc (Nat.le_refl _) (.cells #[.int .i64 0, .string ⟨#[]⟩, .string ⟨#[]⟩, .string ⟨#[]⟩, .bool false, .int .i64 0, .int .i64 0, .int .i64 0, .slice none 0 0] 26)).trans (HB1.out.mono (by simp))) [q])
  obtain ⟨r, hr⟩ : ∃ r, r = W.heap.size := ⟨_, rfl⟩
  have hrq : r ≠ q := by omega
  rw [← hr] at HR1
  rw [← hr]
  have HRR := Lib.hid hr
  clear hr HB1 HQ HMO
  have q0 := HQ1.out.cell 0
  have q1 := HQ1.out.cell 1
  have qf := HQ1.out.frozen 1
  simp only [List.getElem?_toArray, List.getElem?_cons_succ, List.getElem?_cons_zero] at q0 q1
  have HQ3 := Lib.hid (HQ1.out.set_ 1 (.int .i64 ((k : Int) + 1)))
  have HR3 := Lib.hid (HR1.out.far (p := ⟨q, 1, none⟩) (by exact hrq) (.int .i64 ((k : Int) + 1)))
  have HC3 := Lib.hid (HC1.out.set (p := ⟨q, 1, none⟩) (.inl (List.mem_singleton.2 rfl)) (.int .i64 ((k : Int) + 1)))
  go_upto_region 4 with fail
  clear q0 q1 qf HQ1 HR1 HC1
  revert HQ3 HR3 HC3
  generalize w1.setCell ⟨q, 1, none⟩ (.int .i64 ((k : Int) + 1)) = W3
  intro HQ3 HR3 HC3
  have q0 : W3.cell? ⟨q, 0, none⟩ = some (.slice (some ⟨b, o, none⟩) n c) := HQ3.out.cell 0
  have q1 : W3.cell? ⟨q, 1, none⟩ = some (.int .i64 ((k : Int) + 1)) := HQ3.out.cell 1
  obtain ⟨u0, u1, u2, u3, u4, u5, u6, u7, u8⟩ := HCS.out W3 HC3.out
  obtain ⟨z0, z1, z2, z3, z4, z5, z6, z7, z8⟩ := HR3.out.nine
  obtain ⟨f0, f1, f2, f3, f4, f5, f6, f7, f8⟩ := HR3.out.ninef
  have hkz : (k : Int) < (n : Int) := by omega
  have hk0 : 0 ≤ (k : Int) := by omega
  have mixed : Tryz.prog.follows Departure.mixedOrders = true := by kernel_rfl
  go_big_region_o
  clear q0 q1 u0 u1 u2 u3 u4 u5 u6 u7 u8 z0 z1 z2 z3 z4 z5 z6 z7 z8 f0 f1 f2 f3 f4 f5 f6 f7 f8
  go_upto_region 99 with fail
  obtain ⟨bs, s0, s1, s2, s3, s4, s5, s6, s7, s8⟩ := HR3.out.nine_set (.int .i64 uk) (.string unum) (.string uden) (.string utext) (.bool uon) (.int .i64 ucode) (.int .i64 urows) (.int .i64 ucols) (.slice uA un uc)
  have BS := Lib.hid bs
  have hrl : W.heap.size ≤ r := by rw [HRR.out]; exact Nat.le_refl _
  have hqr : q ≠ r := fun e => hrq e.symm
  have HQF := Lib.hid ((((((((((HQ3.out.far (p := ⟨r, 0, none⟩) (by exact hqr) (.int .i64 uk)).far (p := ⟨r, 1, none⟩) (by exact hqr) (.string unum)).far (p := ⟨r, 2, none⟩) (by exact hqr) (.string uden)).far (p := ⟨r, 3, none⟩) (by exact hqr) (.string utext)).far (p := ⟨r, 4, none⟩) (by exact hqr) (.bool uon)).far (p := ⟨r, 5, none⟩) (by exact hqr) (.int .i64 ucode)).far (p := ⟨r, 6, none⟩) (by exact hqr) (.int .i64 urows)).far (p := ⟨r, 7, none⟩) (by exact hqr) (.int .i64 ucols)).far (p := ⟨r, 8, none⟩) (by exact hqr) (.slice uA un uc)))
  have HCF := Lib.hid ((((((((((HC3.out.set (p := ⟨r, 0, none⟩) (.inr (by exact hrl)) (.int .i64 uk)).set (p := ⟨r, 1, none⟩) (.inr (by exact hrl)) (.string unum)).set (p := ⟨r, 2, none⟩) (.inr (by exact hrl)) (.string uden)).set (p := ⟨r, 3, none⟩) (.inr (by exact hrl)) (.string utext)).set (p := ⟨r, 4, none⟩) (.inr (by exact hrl)) (.bool uon)).set (p := ⟨r, 5, none⟩) (.inr (by exact hrl)) (.int .i64 ucode)).set (p := ⟨r, 6, none⟩) (.inr (by exact hrl)) (.int .i64 urows)).set (p := ⟨r, 7, none⟩) (.inr (by exact hrl)) (.int .i64 ucols)).set (p := ⟨r, 8, none⟩) (.inr (by exact hrl)) (.slice uA un uc)))
  clear bs HQ3 HC3 HR3 hrl hqr hrq HCS
  refine bodyPost_ret (v := .agg #[.int .i64 uk, .string unum, .string uden, .string utext, .bool uon, .int .i64 ucode, .int .i64 urows, .int .i64 ucols, .slice uA un uc]) (by simp [results, Tryz.results107, go_sem, s0, s1, s2, s3, s4, s5, s6, s7, s8]) rfl ⟨rfl, HQF.out.drew, HCF.out.drew⟩
/-- An array as a value; as flook's array. -/
abbrev aV (r c : Int) (A : Option Addr) (n cc : Nat) : Value := .agg #[.int .i64 5, .string ⟨#[]⟩, .string ⟨#[]⟩, .string ⟨#[]⟩, .bool false, .int .i64 0, .int .i64 r, .int .i64 c, .slice A n cc]
theorem below_al (W : World) (o : Obj) : Below W.heap.size W (W.alloc o) := (Below.refl _ _).alloc (Nat.le_refl _) _
theorem below_dn {B : Nat} {W W' : World} (h : Below B W W') (n : Nat) : Below B W (W'.drewN n) := ⟨h.os, h.tape, h.output, h.size, h.block⟩
theorem stop_0 (W : World) : Calls Tryz.prog 108 #[.int .i64 0] W fun e w' => e = .returned (.tuple #[]) ∧ W = w' := by
  go_enter Tryz.func108, Tryz.ntmps108
  go_wp2_with fail
  go_end0
  exact ⟨rfl, rfl⟩
/-- The cells of one value of a slice. -/
theorem read_at {b o n c x : Nat} {us : List Vl} {W : World} (h : Reads 9 csV W (.slice (some ⟨b, o, none⟩) n c) us) (hx : x < n) : ∃ uk unum uden utext uon ucode urows ucols uA un uc, us[x]! = ⟨uk, unum, uden, utext, uon, ucode, urows, ucols, uA, un, uc⟩ ∧ ∀ W', Below W.heap.size W W' → W'.cell? ⟨b, o + x * 9, none⟩ = some (.int .i64 uk) ∧ W'.cell? ⟨b, o + x * 9 + 1, none⟩ = some (.string unum) ∧ W'.cell? ⟨b, o + x * 9 + 2, none⟩ = some (.string uden) ∧ W'.cell? ⟨b, o + x * 9 + 3, none⟩ = some (.string utext) ∧ W'.cell? ⟨b, o + x * 9 + 4, none⟩ = some (.bool uon) ∧ W'.cell? ⟨b, o + x * 9 + 5, none⟩ = some (.int .i64 ucode) ∧ W'.cell? ⟨b, o + x * 9 + 6, none⟩ = some (.int .i64 urows) ∧ W'.cell? ⟨b, o + x * 9 + 7, none⟩ = some (.int .i64 ucols) ∧ W'.cell? ⟨b, o + x * 9 + 8, none⟩ = some (.slice uA un uc) := by
  obtain ⟨hl, hb, hc⟩ := h.lt (by omega)
  obtain ⟨u, hu⟩ : ∃ u, us[x]! = u := ⟨_, rfl⟩
  obtain ⟨uk, unum, uden, utext, uon, ucode, urows, ucols, uA, un, uc⟩ := u
  refine ⟨uk, unum, uden, utext, uon, ucode, urows, ucols, uA, un, uc, hu, fun W' hW => ?_⟩
  have g : ∀ j, j < 9 → W'.cell? ⟨b, o + x * 9 + j, none⟩ = (Vl.cs ⟨uk, unum, uden, utext, uon, ucode, urows, ucols, uA, un, uc⟩).toList[j]? := fun j hj => by
    have h1 := hc x (by omega) j hj
    rw [Nat.add_assoc]
    refine (hW.cell (by exact hb)).trans (h1.trans ?_)
    rw [getElem!_pos us x (by omega)] at hu
    rw [hu]
    rfl
  exact ⟨g 0 (by decide), g 1 (by decide), g 2 (by decide), g 3 (by decide), g 4 (by decide), g 5 (by decide), g 6 (by decide), g 7 (by decide), g 8 (by decide)⟩
/-- A slice reads as it did where its block is as it was. -/
theorem reads_same {α : Type} {size : Nat} {f : α → List Value} {W W' : World} {g o n c : Nat} {l : List α} (h : Reads size f W (.slice (some ⟨g, o, none⟩) n c) l) (hs : W.heap.size ≤ W'.heap.size) (hb : W'.heap[g]? = W.heap[g]?) : Reads size f W' (.slice (some ⟨g, o, none⟩) n c) l := by
  obtain ⟨A, c', e, h1, h2, h3⟩ := h
  refine ⟨A, c', e, h1, h2, fun h0 => ?_⟩
  obtain ⟨b, o', e', hl, hc⟩ := h3 h0
  injection e with e1 e2 e3
  rw [e'] at e1
  injection e1 with e1
  injection e1 with e4 e5 e6
  subst e4 e5
  exact ⟨g, o, e', Nat.lt_of_lt_of_le hl hs, fun i hi j hj => (World.cell?_of_block hb).trans (hc i hi j hj)⟩
theorem chg_nine (w : World) (t : Nat) (y0 y1 y2 y3 y4 y5 y6 y7 y8 : Value) : Chg w.heap.size [t] w (((((((((w.setCell ⟨t, 0, none⟩ y0).setCell ⟨t, 1, none⟩ y1).setCell ⟨t, 2, none⟩ y2).setCell ⟨t, 3, none⟩ y3).setCell ⟨t, 4, none⟩ y4).setCell ⟨t, 5, none⟩ y5).setCell ⟨t, 6, none⟩ y6).setCell ⟨t, 7, none⟩ y7).setCell ⟨t, 8, none⟩ y8) := ((((((((((Chg.refl w.heap.size [t] w).set (p := ⟨t, 0, none⟩) (.inl (List.mem_singleton.2 rfl)) y0).set (p := ⟨t, 1, none⟩) (.inl (List.mem_singleton.2 rfl)) y1).set (p := ⟨t, 2, none⟩) (.inl (List.mem_singleton.2 rfl)) y2).set (p := ⟨t, 3, none⟩) (.inl (List.mem_singleton.2 rfl)) y3).set (p := ⟨t, 4, none⟩) (.inl (List.mem_singleton.2 rfl)) y4).set (p := ⟨t, 5, none⟩) (.inl (List.mem_singleton.2 rfl)) y5).set (p := ⟨t, 6, none⟩) (.inl (List.mem_singleton.2 rfl)) y6).set (p := ⟨t, 7, none⟩) (.inl (List.mem_singleton.2 rfl)) y7).set (p := ⟨t, 8, none⟩) (.inl (List.mem_singleton.2 rfl)) y8)
/-- A block that is old, or newer than the call. -/
def Fresh (B0 B1 : Nat) (A : Option Addr) : Prop := ∀ b o, A = some ⟨b, o, none⟩ → b < B0 ∨ B1 ≤ b
/-- The next argument; the world below. -/
theorem value_b (W0 W : World) (q : Nat) (A : Option Addr) (n c k : Nat) (avs : List Vl) (h0 : Below W0.heap.size W0 W) (hq0 : W0.heap.size ≤ q) (hq : Blk W q 120 #[.slice A n c, .int .i64 (k : Int)]) (hA : Reads 9 csV W0 (.slice A n c) avs) (hk : k < n) (hn : n ≤ 1000) : Calls Tryz.prog 107 #[.pointer (some ⟨q, 0, none⟩)] W fun e w' => e = .returned (avs[k]!.v) ∧ Blk w' q 120 #[.slice A n c, .int .i64 ((k : Int) + 1)] ∧ Below W0.heap.size W0 w' ∧ Chg W.heap.size [q] W w' := by
  have hne : ∀ b o, A = some ⟨b, o, none⟩ → b ≠ q := fun b o e => by
    subst e
    have := (hA.lt (by omega)).2.1
    omega
  exact (value_at q A n c k avs W hq (hA.below h0) hk hn hne).mono fun e w' ⟨h1, h2, h3⟩ => ⟨h1, h2, h0.trans (h3.below h0.size fun x hx => by rw [List.mem_singleton.1 hx]; exact hq0), h3⟩
/-- Nine cells of a block of the list are written. -/
theorem Loc.set9k {w W : World} {L : List (Nat × TypeId × Array Value)} {g : Nat} {t : TypeId} {x0 x1 x2 x3 x4 x5 x6 x7 x8 : Value} (h : Loc w ((g, t, #[x0, x1, x2, x3, x4, x5, x6, x7, x8]) :: L) W) (hne : ∀ x ∈ L, x.1 ≠ g) (y0 y1 y2 y3 y4 y5 y6 y7 y8 : Value) : Loc w ((g, t, #[y0, y1, y2, y3, y4, y5, y6, y7, y8]) :: L) (((((((((W.setCell ⟨g, 0, none⟩ y0).setCell ⟨g, 1, none⟩ y1).setCell ⟨g, 2, none⟩ y2).setCell ⟨g, 3, none⟩ y3).setCell ⟨g, 4, none⟩ y4).setCell ⟨g, 5, none⟩ y5).setCell ⟨g, 6, none⟩ y6).setCell ⟨g, 7, none⟩ y7).setCell ⟨g, 8, none⟩ y8) :=
  ⟨below_nine h.1 (h.2 _ (List.mem_cons_self ..)).1 y0 y1 y2 y3 y4 y5 y6 y7 y8, fun x hx => by
    rcases List.mem_cons.1 hx with rfl | hx
    · exact ⟨(h.2 _ (List.mem_cons_self ..)).1, ((h.2 _ (List.mem_cons_self ..)).2.nine_set y0 y1 y2 y3 y4 y5 y6 y7 y8).1⟩
    · have := h.2 x (List.mem_cons_of_mem _ hx)
      exact ⟨this.1, (((((((((this.2.far (hne x hx) y0).far (hne x hx) y1).far (hne x hx) y2).far (hne x hx) y3).far (hne x hx) y4).far (hne x hx) y5).far (hne x hx) y6).far (hne x hx) y7).far (hne x hx) y8)⟩⟩
theorem Loc.set2f {w W : World} {L : List (Nat × TypeId × Array Value)} {g : Nat} {t : TypeId} {x0 x1 : Value} (h : Loc w ((g, t, #[x0, x1]) :: L) W) (hne : ∀ x ∈ L, x.1 ≠ g) (y0 y1 : Value) : Loc w ((g, t, #[y0, y1]) :: L) ((W.setCell ⟨g, 0, none⟩ y0).setCell ⟨g, 1, none⟩ y1) :=
  ⟨below_two h.1 (h.2 _ (List.mem_cons_self ..)).1 y0 y1, fun x hx => by
    rcases List.mem_cons.1 hx with rfl | hx
    · exact ⟨(h.2 _ (List.mem_cons_self ..)).1, ((h.2 _ (List.mem_cons_self ..)).2.two_set y0 y1).1⟩
    · have := h.2 x (List.mem_cons_of_mem _ hx)
      exact ⟨this.1, (this.2.far (hne x hx) y0).far (hne x hx) y1⟩⟩
theorem loc_swap {w W : World} {x y : Nat × TypeId × Array Value} (h : Loc w [x, y] W) : Loc w [y, x] W := h.perm fun z hz => by
  simp only [List.mem_cons, List.not_mem_nil, or_false] at hz ⊢
  exact hz.symm
theorem one_ne {g h : Nat} {t : TypeId} {cs : Array Value} (hgh : g ≠ h) : ∀ x ∈ ([(g, t, cs)] : List (Nat × TypeId × Array Value)), x.1 ≠ h := fun x hx => by
  rw [List.mem_singleton.1 hx]
  exact hgh
end Go.Proofs.YtcnlonaighlmbaaGreatDoor
