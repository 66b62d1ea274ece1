/- ftext: an entry's closure, at each function; answers of any kind. -/
import Derived.Test.YtcnlonaighlmbaaGreatDoorFtG
set_option linter.unusedSimpArgs false
set_option linter.unusedVariables false
namespace Go.Proofs.YtcnlonaighlmbaaGreatDoor
open Go.RowKit

set_option maxRecDepth 100000 in
set_option maxHeartbeats 4000000 in
/-- LEN. -/
theorem entG_Len (B0 W1 W : World) (p : Nat) (A : Option Addr) (c n : Nat) (Φ : Vl → List Vl → Prop) (hp : Blk W p 89 #[.func (.func 51) #[] #[]]) (hB : B0.heap.size ≤ W1.heap.size) (h1 : Below W1.heap.size W1 W)
    (HF : ∀ W' q, Below W1.heap.size W1 W' → W1.heap.size ≤ q → Blk W' q 120 #[.slice A n c, .int .i64 0] → Calls Tryz.prog 51 #[.pointer (some ⟨q, 0, none⟩)] W' (ResG B0 W' [q] Φ)) :
    Calls Tryz.prog 105 #[.slice A n c, .pointer (some ⟨p, 0, none⟩)] W (ResG B0 W [] Φ) := by
  have HL0 := Lib.hid (((Loc.start W).alloc' rfl 26 #[.int .i64 0, .string ⟨#[]⟩, .string ⟨#[]⟩, .string ⟨#[]⟩, .bool false, .int .i64 0, .int .i64 0, .int .i64 0, .slice none 0 0]).alloc' (g := W.heap.size + 1) (by simp) 120 #[.slice A n c, .int .i64 0])
  have p0 := ((hp.alloc (.cells #[.int .i64 0, .string ⟨#[]⟩, .string ⟨#[]⟩, .string ⟨#[]⟩, .bool false, .int .i64 0, .int .i64 0, .int .i64 0, .slice none 0 0] 26))).cell 0
  simp only [List.getElem?_toArray, List.getElem?_cons_succ, List.getElem?_cons_zero] at p0
  have hW1 := h1.size
  have HF0 := Lib.hid (HF _ (W.heap.size + 1) (h1.trans (HL0.out.bel.mono hW1)) (by omega) (HL0.out.blk (g := W.heap.size + 1) (t := 120) (List.mem_cons_self ..)))
  have HS := Lib.hid hW1
  have HB := Lib.hid hB
  clear hp HF h1 hB hW1
  go_enter Tryz.func105, Tryz.ntmps105
  go_upto_region 99 with (go_at_call 51; (with_reducible refine HF0.out.mono ?_); rintro e w2 ⟨k, num, den, text, on, code, rr, rc, A2, n2, c2, us, rfl, hP, hr, hf, hb⟩; have HP := Lib.hid hP; have HRS := Lib.hid hr; have HFR := Lib.hid hf; have HB2 := Lib.hid hb; have HBW := Lib.hid (hb.blk (HL0.out.blk (g := W.heap.size) (t := 26) (List.mem_cons_of_mem _ (List.mem_cons_self ..))) (by simp; omega) (by simp)); clear hP hr hf hb p0; obtain ⟨f0, f1, f2, f3, f4, f5, f6, f7, f8⟩ := HBW.out.ninef; obtain ⟨z0, z1, z2, z3, z4, z5, z6, z7, z8⟩ := HBW.out.nine)
  clear f0 f1 f2 f3 f4 f5 f6 f7 f8 z0 z1 z2 z3 z4 z5 z6 z7 z8
  obtain ⟨q0, q1, q2, q3, q4, q5, q6, q7, q8⟩ := (HBW.out.nine_set (.int .i64 k) (.string num) (.string den) (.string text) (.bool on) (.int .i64 code) (.int .i64 rr) (.int .i64 rc) (.slice A2 n2 c2)).1.nine
  have hcn := chg_nine w2 W.heap.size (.int .i64 k) (.string num) (.string den) (.string text) (.bool on) (.int .i64 code) (.int .i64 rr) (.int .i64 rc) (.slice A2 n2 c2)
  have hsz := HB2.out.size
  have hsz2 : (((W.alloc (.cells #[.int .i64 0, .string ⟨#[]⟩, .string ⟨#[]⟩, .string ⟨#[]⟩, .bool false, .int .i64 0, .int .i64 0, .int .i64 0, .slice none 0 0] 26)).alloc (.cells #[.slice A n c, .int .i64 0] 120))).heap.size = W.heap.size + 2 := by simp
  rw [hsz2] at hsz
  have hfr := HFR.out
  unfold Fresh at hfr
  rw [hsz2] at hfr
  have hS := HS.out
  have hB := HB.out
  have h12 : Chg W.heap.size [] W w2 := (Chg.of HL0.out.bel []).trans (HB2.out.mono (by rw [hsz2]; omega) fun x hx => .inr (by rw [List.mem_singleton.1 hx]; omega))
  refine bodyPost_ret (v := .agg #[.int .i64 k, .string num, .string den, .string text, .bool on, .int .i64 code, .int .i64 rr, .int .i64 rc, .slice A2 n2 c2]) (by simp [results, Tryz.results105, go_sem, q0, q1, q2, q3, q4, q5, q6, q7, q8]) rfl ⟨k, num, den, text, on, code, rr, rc, A2, n2, c2, us, rfl, HP.out, reads_same2 HRS.out hcn.size (fun b o e hb => hcn.block b hb (by
    have := hfr b o e
    rw [List.mem_singleton]
    omega)), fun b o e => by have := hfr b o e; omega, h12.trans (hcn.mono (by omega) fun x hx => .inr (by rw [List.mem_singleton.1 hx]; exact Nat.le_refl _))⟩

set_option maxRecDepth 100000 in
set_option maxHeartbeats 4000000 in
/-- LEFT. -/
theorem entG_Lef (B0 W1 W : World) (p : Nat) (A : Option Addr) (c n : Nat) (Φ : Vl → List Vl → Prop) (hp : Blk W p 89 #[.func (.func 59) #[] #[]]) (hB : B0.heap.size ≤ W1.heap.size) (h1 : Below W1.heap.size W1 W)
    (HF : ∀ W' q, Below W1.heap.size W1 W' → W1.heap.size ≤ q → Blk W' q 120 #[.slice A n c, .int .i64 0] → Calls Tryz.prog 59 #[.pointer (some ⟨q, 0, none⟩)] W' (ResG B0 W' [q] Φ)) :
    Calls Tryz.prog 105 #[.slice A n c, .pointer (some ⟨p, 0, none⟩)] W (ResG B0 W [] Φ) := by
  have HL0 := Lib.hid (((Loc.start W).alloc' rfl 26 #[.int .i64 0, .string ⟨#[]⟩, .string ⟨#[]⟩, .string ⟨#[]⟩, .bool false, .int .i64 0, .int .i64 0, .int .i64 0, .slice none 0 0]).alloc' (g := W.heap.size + 1) (by simp) 120 #[.slice A n c, .int .i64 0])
  have p0 := ((hp.alloc (.cells #[.int .i64 0, .string ⟨#[]⟩, .string ⟨#[]⟩, .string ⟨#[]⟩, .bool false, .int .i64 0, .int .i64 0, .int .i64 0, .slice none 0 0] 26))).cell 0
  simp only [List.getElem?_toArray, List.getElem?_cons_succ, List.getElem?_cons_zero] at p0
  have hW1 := h1.size
  have HF0 := Lib.hid (HF _ (W.heap.size + 1) (h1.trans (HL0.out.bel.mono hW1)) (by omega) (HL0.out.blk (g := W.heap.size + 1) (t := 120) (List.mem_cons_self ..)))
  have HS := Lib.hid hW1
  have HB := Lib.hid hB
  clear hp HF h1 hB hW1
  go_enter Tryz.func105, Tryz.ntmps105
  go_upto_region 99 with (go_at_call 59; (with_reducible refine HF0.out.mono ?_); rintro e w2 ⟨k, num, den, text, on, code, rr, rc, A2, n2, c2, us, rfl, hP, hr, hf, hb⟩; have HP := Lib.hid hP; have HRS := Lib.hid hr; have HFR := Lib.hid hf; have HB2 := Lib.hid hb; have HBW := Lib.hid (hb.blk (HL0.out.blk (g := W.heap.size) (t := 26) (List.mem_cons_of_mem _ (List.mem_cons_self ..))) (by simp; omega) (by simp)); clear hP hr hf hb p0; obtain ⟨f0, f1, f2, f3, f4, f5, f6, f7, f8⟩ := HBW.out.ninef; obtain ⟨z0, z1, z2, z3, z4, z5, z6, z7, z8⟩ := HBW.out.nine)
  clear f0 f1 f2 f3 f4 f5 f6 f7 f8 z0 z1 z2 z3 z4 z5 z6 z7 z8
  obtain ⟨q0, q1, q2, q3, q4, q5, q6, q7, q8⟩ := (HBW.out.nine_set (.int .i64 k) (.string num) (.string den) (.string text) (.bool on) (.int .i64 code) (.int .i64 rr) (.int .i64 rc) (.slice A2 n2 c2)).1.nine
  have hcn := chg_nine w2 W.heap.size (.int .i64 k) (.string num) (.string den) (.string text) (.bool on) (.int .i64 code) (.int .i64 rr) (.int .i64 rc) (.slice A2 n2 c2)
  have hsz := HB2.out.size
  have hsz2 : (((W.alloc (.cells #[.int .i64 0, .string ⟨#[]⟩, .string ⟨#[]⟩, .string ⟨#[]⟩, .bool false, .int .i64 0, .int .i64 0, .int .i64 0, .slice none 0 0] 26)).alloc (.cells #[.slice A n c, .int .i64 0] 120))).heap.size = W.heap.size + 2 := by simp
  rw [hsz2] at hsz
  have hfr := HFR.out
  unfold Fresh at hfr
  rw [hsz2] at hfr
  have hS := HS.out
  have hB := HB.out
  have h12 : Chg W.heap.size [] W w2 := (Chg.of HL0.out.bel []).trans (HB2.out.mono (by rw [hsz2]; omega) fun x hx => .inr (by rw [List.mem_singleton.1 hx]; omega))
  refine bodyPost_ret (v := .agg #[.int .i64 k, .string num, .string den, .string text, .bool on, .int .i64 code, .int .i64 rr, .int .i64 rc, .slice A2 n2 c2]) (by simp [results, Tryz.results105, go_sem, q0, q1, q2, q3, q4, q5, q6, q7, q8]) rfl ⟨k, num, den, text, on, code, rr, rc, A2, n2, c2, us, rfl, HP.out, reads_same2 HRS.out hcn.size (fun b o e hb => hcn.block b hb (by
    have := hfr b o e
    rw [List.mem_singleton]
    omega)), fun b o e => by have := hfr b o e; omega, h12.trans (hcn.mono (by omega) fun x hx => .inr (by rw [List.mem_singleton.1 hx]; exact Nat.le_refl _))⟩

set_option maxRecDepth 100000 in
set_option maxHeartbeats 4000000 in
/-- RIGHT. -/
theorem entG_Rig (B0 W1 W : World) (p : Nat) (A : Option Addr) (c n : Nat) (Φ : Vl → List Vl → Prop) (hp : Blk W p 89 #[.func (.func 60) #[] #[]]) (hB : B0.heap.size ≤ W1.heap.size) (h1 : Below W1.heap.size W1 W)
    (HF : ∀ W' q, Below W1.heap.size W1 W' → W1.heap.size ≤ q → Blk W' q 120 #[.slice A n c, .int .i64 0] → Calls Tryz.prog 60 #[.pointer (some ⟨q, 0, none⟩)] W' (ResG B0 W' [q] Φ)) :
    Calls Tryz.prog 105 #[.slice A n c, .pointer (some ⟨p, 0, none⟩)] W (ResG B0 W [] Φ) := by
  have HL0 := Lib.hid (((Loc.start W).alloc' rfl 26 #[.int .i64 0, .string ⟨#[]⟩, .string ⟨#[]⟩, .string ⟨#[]⟩, .bool false, .int .i64 0, .int .i64 0, .int .i64 0, .slice none 0 0]).alloc' (g := W.heap.size + 1) (by simp) 120 #[.slice A n c, .int .i64 0])
  have p0 := ((hp.alloc (.cells #[.int .i64 0, .string ⟨#[]⟩, .string ⟨#[]⟩, .string ⟨#[]⟩, .bool false, .int .i64 0, .int .i64 0, .int .i64 0, .slice none 0 0] 26))).cell 0
  simp only [List.getElem?_toArray, List.getElem?_cons_succ, List.getElem?_cons_zero] at p0
  have hW1 := h1.size
  have HF0 := Lib.hid (HF _ (W.heap.size + 1) (h1.trans (HL0.out.bel.mono hW1)) (by omega) (HL0.out.blk (g := W.heap.size + 1) (t := 120) (List.mem_cons_self ..)))
  have HS := Lib.hid hW1
  have HB := Lib.hid hB
  clear hp HF h1 hB hW1
  go_enter Tryz.func105, Tryz.ntmps105
  go_upto_region 99 with (go_at_call 60; (with_reducible refine HF0.out.mono ?_); rintro e w2 ⟨k, num, den, text, on, code, rr, rc, A2, n2, c2, us, rfl, hP, hr, hf, hb⟩; have HP := Lib.hid hP; have HRS := Lib.hid hr; have HFR := Lib.hid hf; have HB2 := Lib.hid hb; have HBW := Lib.hid (hb.blk (HL0.out.blk (g := W.heap.size) (t := 26) (List.mem_cons_of_mem _ (List.mem_cons_self ..))) (by simp; omega) (by simp)); clear hP hr hf hb p0; obtain ⟨f0, f1, f2, f3, f4, f5, f6, f7, f8⟩ := HBW.out.ninef; obtain ⟨z0, z1, z2, z3, z4, z5, z6, z7, z8⟩ := HBW.out.nine)
  clear f0 f1 f2 f3 f4 f5 f6 f7 f8 z0 z1 z2 z3 z4 z5 z6 z7 z8
  obtain ⟨q0, q1, q2, q3, q4, q5, q6, q7, q8⟩ := (HBW.out.nine_set (.int .i64 k) (.string num) (.string den) (.string text) (.bool on) (.int .i64 code) (.int .i64 rr) (.int .i64 rc) (.slice A2 n2 c2)).1.nine
  have hcn := chg_nine w2 W.heap.size (.int .i64 k) (.string num) (.string den) (.string text) (.bool on) (.int .i64 code) (.int .i64 rr) (.int .i64 rc) (.slice A2 n2 c2)
  have hsz := HB2.out.size
  have hsz2 : (((W.alloc (.cells #[.int .i64 0, .string ⟨#[]⟩, .string ⟨#[]⟩, .string ⟨#[]⟩, .bool false, .int .i64 0, .int .i64 0, .int .i64 0, .slice none 0 0] 26)).alloc (.cells #[.slice A n c, .int .i64 0] 120))).heap.size = W.heap.size + 2 := by simp
  rw [hsz2] at hsz
  have hfr := HFR.out
  unfold Fresh at hfr
  rw [hsz2] at hfr
  have hS := HS.out
  have hB := HB.out
  have h12 : Chg W.heap.size [] W w2 := (Chg.of HL0.out.bel []).trans (HB2.out.mono (by rw [hsz2]; omega) fun x hx => .inr (by rw [List.mem_singleton.1 hx]; omega))
  refine bodyPost_ret (v := .agg #[.int .i64 k, .string num, .string den, .string text, .bool on, .int .i64 code, .int .i64 rr, .int .i64 rc, .slice A2 n2 c2]) (by simp [results, Tryz.results105, go_sem, q0, q1, q2, q3, q4, q5, q6, q7, q8]) rfl ⟨k, num, den, text, on, code, rr, rc, A2, n2, c2, us, rfl, HP.out, reads_same2 HRS.out hcn.size (fun b o e hb => hcn.block b hb (by
    have := hfr b o e
    rw [List.mem_singleton]
    omega)), fun b o e => by have := hfr b o e; omega, h12.trans (hcn.mono (by omega) fun x hx => .inr (by rw [List.mem_singleton.1 hx]; exact Nat.le_refl _))⟩

set_option maxRecDepth 100000 in
set_option maxHeartbeats 4000000 in
/-- MID. -/
theorem entG_Mid (B0 W1 W : World) (p : Nat) (A : Option Addr) (c n : Nat) (Φ : Vl → List Vl → Prop) (hp : Blk W p 89 #[.func (.func 61) #[] #[]]) (hB : B0.heap.size ≤ W1.heap.size) (h1 : Below W1.heap.size W1 W)
    (HF : ∀ W' q, Below W1.heap.size W1 W' → W1.heap.size ≤ q → Blk W' q 120 #[.slice A n c, .int .i64 0] → Calls Tryz.prog 61 #[.pointer (some ⟨q, 0, none⟩)] W' (ResG B0 W' [q] Φ)) :
    Calls Tryz.prog 105 #[.slice A n c, .pointer (some ⟨p, 0, none⟩)] W (ResG B0 W [] Φ) := by
  have HL0 := Lib.hid (((Loc.start W).alloc' rfl 26 #[.int .i64 0, .string ⟨#[]⟩, .string ⟨#[]⟩, .string ⟨#[]⟩, .bool false, .int .i64 0, .int .i64 0, .int .i64 0, .slice none 0 0]).alloc' (g := W.heap.size + 1) (by simp) 120 #[.slice A n c, .int .i64 0])
  have p0 := ((hp.alloc (.cells #[.int .i64 0, .string ⟨#[]⟩, .string ⟨#[]⟩, .string ⟨#[]⟩, .bool false, .int .i64 0, .int .i64 0, .int .i64 0, .slice none 0 0] 26))).cell 0
  simp only [List.getElem?_toArray, List.getElem?_cons_succ, List.getElem?_cons_zero] at p0
  have hW1 := h1.size
  have HF0 := Lib.hid (HF _ (W.heap.size + 1) (h1.trans (HL0.out.bel.mono hW1)) (by omega) (HL0.out.blk (g := W.heap.size + 1) (t := 120) (List.mem_cons_self ..)))
  have HS := Lib.hid hW1
  have HB := Lib.hid hB
  clear hp HF h1 hB hW1
  go_enter Tryz.func105, Tryz.ntmps105
  go_upto_region 99 with (go_at_call 61; (with_reducible refine HF0.out.mono ?_); rintro e w2 ⟨k, num, den, text, on, code, rr, rc, A2, n2, c2, us, rfl, hP, hr, hf, hb⟩; have HP := Lib.hid hP; have HRS := Lib.hid hr; have HFR := Lib.hid hf; have HB2 := Lib.hid hb; have HBW := Lib.hid (hb.blk (HL0.out.blk (g := W.heap.size) (t := 26) (List.mem_cons_of_mem _ (List.mem_cons_self ..))) (by simp; omega) (by simp)); clear hP hr hf hb p0; obtain ⟨f0, f1, f2, f3, f4, f5, f6, f7, f8⟩ := HBW.out.ninef; obtain ⟨z0, z1, z2, z3, z4, z5, z6, z7, z8⟩ := HBW.out.nine)
  clear f0 f1 f2 f3 f4 f5 f6 f7 f8 z0 z1 z2 z3 z4 z5 z6 z7 z8
  obtain ⟨q0, q1, q2, q3, q4, q5, q6, q7, q8⟩ := (HBW.out.nine_set (.int .i64 k) (.string num) (.string den) (.string text) (.bool on) (.int .i64 code) (.int .i64 rr) (.int .i64 rc) (.slice A2 n2 c2)).1.nine
  have hcn := chg_nine w2 W.heap.size (.int .i64 k) (.string num) (.string den) (.string text) (.bool on) (.int .i64 code) (.int .i64 rr) (.int .i64 rc) (.slice A2 n2 c2)
  have hsz := HB2.out.size
  have hsz2 : (((W.alloc (.cells #[.int .i64 0, .string ⟨#[]⟩, .string ⟨#[]⟩, .string ⟨#[]⟩, .bool false, .int .i64 0, .int .i64 0, .int .i64 0, .slice none 0 0] 26)).alloc (.cells #[.slice A n c, .int .i64 0] 120))).heap.size = W.heap.size + 2 := by simp
  rw [hsz2] at hsz
  have hfr := HFR.out
  unfold Fresh at hfr
  rw [hsz2] at hfr
  have hS := HS.out
  have hB := HB.out
  have h12 : Chg W.heap.size [] W w2 := (Chg.of HL0.out.bel []).trans (HB2.out.mono (by rw [hsz2]; omega) fun x hx => .inr (by rw [List.mem_singleton.1 hx]; omega))
  refine bodyPost_ret (v := .agg #[.int .i64 k, .string num, .string den, .string text, .bool on, .int .i64 code, .int .i64 rr, .int .i64 rc, .slice A2 n2 c2]) (by simp [results, Tryz.results105, go_sem, q0, q1, q2, q3, q4, q5, q6, q7, q8]) rfl ⟨k, num, den, text, on, code, rr, rc, A2, n2, c2, us, rfl, HP.out, reads_same2 HRS.out hcn.size (fun b o e hb => hcn.block b hb (by
    have := hfr b o e
    rw [List.mem_singleton]
    omega)), fun b o e => by have := hfr b o e; omega, h12.trans (hcn.mono (by omega) fun x hx => .inr (by rw [List.mem_singleton.1 hx]; exact Nat.le_refl _))⟩

set_option maxRecDepth 100000 in
set_option maxHeartbeats 4000000 in
/-- REPLACE. -/
theorem entG_Rep (B0 W1 W : World) (p : Nat) (A : Option Addr) (c n : Nat) (Φ : Vl → List Vl → Prop) (hp : Blk W p 89 #[.func (.func 68) #[] #[]]) (hB : B0.heap.size ≤ W1.heap.size) (h1 : Below W1.heap.size W1 W)
    (HF : ∀ W' q, Below W1.heap.size W1 W' → W1.heap.size ≤ q → Blk W' q 120 #[.slice A n c, .int .i64 0] → Calls Tryz.prog 68 #[.pointer (some ⟨q, 0, none⟩)] W' (ResG B0 W' [q] Φ)) :
    Calls Tryz.prog 105 #[.slice A n c, .pointer (some ⟨p, 0, none⟩)] W (ResG B0 W [] Φ) := by
  have HL0 := Lib.hid (((Loc.start W).alloc' rfl 26 #[.int .i64 0, .string ⟨#[]⟩, .string ⟨#[]⟩, .string ⟨#[]⟩, .bool false, .int .i64 0, .int .i64 0, .int .i64 0, .slice none 0 0]).alloc' (g := W.heap.size + 1) (by simp) 120 #[.slice A n c, .int .i64 0])
  have p0 := ((hp.alloc (.cells #[.int .i64 0, .string ⟨#[]⟩, .string ⟨#[]⟩, .string ⟨#[]⟩, .bool false, .int .i64 0, .int .i64 0, .int .i64 0, .slice none 0 0] 26))).cell 0
  simp only [List.getElem?_toArray, List.getElem?_cons_succ, List.getElem?_cons_zero] at p0
  have hW1 := h1.size
  have HF0 := Lib.hid (HF _ (W.heap.size + 1) (h1.trans (HL0.out.bel.mono hW1)) (by omega) (HL0.out.blk (g := W.heap.size + 1) (t := 120) (List.mem_cons_self ..)))
  have HS := Lib.hid hW1
  have HB := Lib.hid hB
  clear hp HF h1 hB hW1
  go_enter Tryz.func105, Tryz.ntmps105
  go_upto_region 99 with (go_at_call 68; (with_reducible refine HF0.out.mono ?_); rintro e w2 ⟨k, num, den, text, on, code, rr, rc, A2, n2, c2, us, rfl, hP, hr, hf, hb⟩; have HP := Lib.hid hP; have HRS := Lib.hid hr; have HFR := Lib.hid hf; have HB2 := Lib.hid hb; have HBW := Lib.hid (hb.blk (HL0.out.blk (g := W.heap.size) (t := 26) (List.mem_cons_of_mem _ (List.mem_cons_self ..))) (by simp; omega) (by simp)); clear hP hr hf hb p0; obtain ⟨f0, f1, f2, f3, f4, f5, f6, f7, f8⟩ := HBW.out.ninef; obtain ⟨z0, z1, z2, z3, z4, z5, z6, z7, z8⟩ := HBW.out.nine)
  clear f0 f1 f2 f3 f4 f5 f6 f7 f8 z0 z1 z2 z3 z4 z5 z6 z7 z8
  obtain ⟨q0, q1, q2, q3, q4, q5, q6, q7, q8⟩ := (HBW.out.nine_set (.int .i64 k) (.string num) (.string den) (.string text) (.bool on) (.int .i64 code) (.int .i64 rr) (.int .i64 rc) (.slice A2 n2 c2)).1.nine
  have hcn := chg_nine w2 W.heap.size (.int .i64 k) (.string num) (.string den) (.string text) (.bool on) (.int .i64 code) (.int .i64 rr) (.int .i64 rc) (.slice A2 n2 c2)
  have hsz := HB2.out.size
  have hsz2 : (((W.alloc (.cells #[.int .i64 0, .string ⟨#[]⟩, .string ⟨#[]⟩, .string ⟨#[]⟩, .bool false, .int .i64 0, .int .i64 0, .int .i64 0, .slice none 0 0] 26)).alloc (.cells #[.slice A n c, .int .i64 0] 120))).heap.size = W.heap.size + 2 := by simp
  rw [hsz2] at hsz
  have hfr := HFR.out
  unfold Fresh at hfr
  rw [hsz2] at hfr
  have hS := HS.out
  have hB := HB.out
  have h12 : Chg W.heap.size [] W w2 := (Chg.of HL0.out.bel []).trans (HB2.out.mono (by rw [hsz2]; omega) fun x hx => .inr (by rw [List.mem_singleton.1 hx]; omega))
  refine bodyPost_ret (v := .agg #[.int .i64 k, .string num, .string den, .string text, .bool on, .int .i64 code, .int .i64 rr, .int .i64 rc, .slice A2 n2 c2]) (by simp [results, Tryz.results105, go_sem, q0, q1, q2, q3, q4, q5, q6, q7, q8]) rfl ⟨k, num, den, text, on, code, rr, rc, A2, n2, c2, us, rfl, HP.out, reads_same2 HRS.out hcn.size (fun b o e hb => hcn.block b hb (by
    have := hfr b o e
    rw [List.mem_singleton]
    omega)), fun b o e => by have := hfr b o e; omega, h12.trans (hcn.mono (by omega) fun x hx => .inr (by rw [List.mem_singleton.1 hx]; exact Nat.le_refl _))⟩

set_option maxRecDepth 100000 in
set_option maxHeartbeats 4000000 in
/-- EXACT. -/
theorem entG_Exa (B0 W1 W : World) (p : Nat) (A : Option Addr) (c n : Nat) (Φ : Vl → List Vl → Prop) (hp : Blk W p 89 #[.func (.func 63) #[] #[]]) (hB : B0.heap.size ≤ W1.heap.size) (h1 : Below W1.heap.size W1 W)
    (HF : ∀ W' q, Below W1.heap.size W1 W' → W1.heap.size ≤ q → Blk W' q 120 #[.slice A n c, .int .i64 0] → Calls Tryz.prog 63 #[.pointer (some ⟨q, 0, none⟩)] W' (ResG B0 W' [q] Φ)) :
    Calls Tryz.prog 105 #[.slice A n c, .pointer (some ⟨p, 0, none⟩)] W (ResG B0 W [] Φ) := by
  have HL0 := Lib.hid (((Loc.start W).alloc' rfl 26 #[.int .i64 0, .string ⟨#[]⟩, .string ⟨#[]⟩, .string ⟨#[]⟩, .bool false, .int .i64 0, .int .i64 0, .int .i64 0, .slice none 0 0]).alloc' (g := W.heap.size + 1) (by simp) 120 #[.slice A n c, .int .i64 0])
  have p0 := ((hp.alloc (.cells #[.int .i64 0, .string ⟨#[]⟩, .string ⟨#[]⟩, .string ⟨#[]⟩, .bool false, .int .i64 0, .int .i64 0, .int .i64 0, .slice none 0 0] 26))).cell 0
  simp only [List.getElem?_toArray, List.getElem?_cons_succ, List.getElem?_cons_zero] at p0
  have hW1 := h1.size
  have HF0 := Lib.hid (HF _ (W.heap.size + 1) (h1.trans (HL0.out.bel.mono hW1)) (by omega) (HL0.out.blk (g := W.heap.size + 1) (t := 120) (List.mem_cons_self ..)))
  have HS := Lib.hid hW1
  have HB := Lib.hid hB
  clear hp HF h1 hB hW1
  go_enter Tryz.func105, Tryz.ntmps105
  go_upto_region 99 with (go_at_call 63; (with_reducible refine HF0.out.mono ?_); rintro e w2 ⟨k, num, den, text, on, code, rr, rc, A2, n2, c2, us, rfl, hP, hr, hf, hb⟩; have HP := Lib.hid hP; have HRS := Lib.hid hr; have HFR := Lib.hid hf; have HB2 := Lib.hid hb; have HBW := Lib.hid (hb.blk (HL0.out.blk (g := W.heap.size) (t := 26) (List.mem_cons_of_mem _ (List.mem_cons_self ..))) (by simp; omega) (by simp)); clear hP hr hf hb p0; obtain ⟨f0, f1, f2, f3, f4, f5, f6, f7, f8⟩ := HBW.out.ninef; obtain ⟨z0, z1, z2, z3, z4, z5, z6, z7, z8⟩ := HBW.out.nine)
  clear f0 f1 f2 f3 f4 f5 f6 f7 f8 z0 z1 z2 z3 z4 z5 z6 z7 z8
  obtain ⟨q0, q1, q2, q3, q4, q5, q6, q7, q8⟩ := (HBW.out.nine_set (.int .i64 k) (.string num) (.string den) (.string text) (.bool on) (.int .i64 code) (.int .i64 rr) (.int .i64 rc) (.slice A2 n2 c2)).1.nine
  have hcn := chg_nine w2 W.heap.size (.int .i64 k) (.string num) (.string den) (.string text) (.bool on) (.int .i64 code) (.int .i64 rr) (.int .i64 rc) (.slice A2 n2 c2)
  have hsz := HB2.out.size
  have hsz2 : (((W.alloc (.cells #[.int .i64 0, .string ⟨#[]⟩, .string ⟨#[]⟩, .string ⟨#[]⟩, .bool false, .int .i64 0, .int .i64 0, .int .i64 0, .slice none 0 0] 26)).alloc (.cells #[.slice A n c, .int .i64 0] 120))).heap.size = W.heap.size + 2 := by simp
  rw [hsz2] at hsz
  have hfr := HFR.out
  unfold Fresh at hfr
  rw [hsz2] at hfr
  have hS := HS.out
  have hB := HB.out
  have h12 : Chg W.heap.size [] W w2 := (Chg.of HL0.out.bel []).trans (HB2.out.mono (by rw [hsz2]; omega) fun x hx => .inr (by rw [List.mem_singleton.1 hx]; omega))
  refine bodyPost_ret (v := .agg #[.int .i64 k, .string num, .string den, .string text, .bool on, .int .i64 code, .int .i64 rr, .int .i64 rc, .slice A2 n2 c2]) (by simp [results, Tryz.results105, go_sem, q0, q1, q2, q3, q4, q5, q6, q7, q8]) rfl ⟨k, num, den, text, on, code, rr, rc, A2, n2, c2, us, rfl, HP.out, reads_same2 HRS.out hcn.size (fun b o e hb => hcn.block b hb (by
    have := hfr b o e
    rw [List.mem_singleton]
    omega)), fun b o e => by have := hfr b o e; omega, h12.trans (hcn.mono (by omega) fun x hx => .inr (by rw [List.mem_singleton.1 hx]; exact Nat.le_refl _))⟩

set_option maxRecDepth 100000 in
set_option maxHeartbeats 4000000 in
/-- CONCAT. -/
theorem entG_Con (B0 W1 W : World) (p : Nat) (A : Option Addr) (c n : Nat) (Φ : Vl → List Vl → Prop) (hp : Blk W p 89 #[.func (.func 78) #[] #[]]) (hB : B0.heap.size ≤ W1.heap.size) (h1 : Below W1.heap.size W1 W)
    (HF : ∀ W' q, Below W1.heap.size W1 W' → W1.heap.size ≤ q → Blk W' q 120 #[.slice A n c, .int .i64 0] → Calls Tryz.prog 78 #[.pointer (some ⟨q, 0, none⟩)] W' (ResG B0 W' [q] Φ)) :
    Calls Tryz.prog 105 #[.slice A n c, .pointer (some ⟨p, 0, none⟩)] W (ResG B0 W [] Φ) := by
  have HL0 := Lib.hid (((Loc.start W).alloc' rfl 26 #[.int .i64 0, .string ⟨#[]⟩, .string ⟨#[]⟩, .string ⟨#[]⟩, .bool false, .int .i64 0, .int .i64 0, .int .i64 0, .slice none 0 0]).alloc' (g := W.heap.size + 1) (by simp) 120 #[.slice A n c, .int .i64 0])
  have p0 := ((hp.alloc (.cells #[.int .i64 0, .string ⟨#[]⟩, .string ⟨#[]⟩, .string ⟨#[]⟩, .bool false, .int .i64 0, .int .i64 0, .int .i64 0, .slice none 0 0] 26))).cell 0
  simp only [List.getElem?_toArray, List.getElem?_cons_succ, List.getElem?_cons_zero] at p0
  have hW1 := h1.size
  have HF0 := Lib.hid (HF _ (W.heap.size + 1) (h1.trans (HL0.out.bel.mono hW1)) (by omega) (HL0.out.blk (g := W.heap.size + 1) (t := 120) (List.mem_cons_self ..)))
  have HS := Lib.hid hW1
  have HB := Lib.hid hB
  clear hp HF h1 hB hW1
  go_enter Tryz.func105, Tryz.ntmps105
  go_upto_region 99 with (go_at_call 78; (with_reducible refine HF0.out.mono ?_); rintro e w2 ⟨k, num, den, text, on, code, rr, rc, A2, n2, c2, us, rfl, hP, hr, hf, hb⟩; have HP := Lib.hid hP; have HRS := Lib.hid hr; have HFR := Lib.hid hf; have HB2 := Lib.hid hb; have HBW := Lib.hid (hb.blk (HL0.out.blk (g := W.heap.size) (t := 26) (List.mem_cons_of_mem _ (List.mem_cons_self ..))) (by simp; omega) (by simp)); clear hP hr hf hb p0; obtain ⟨f0, f1, f2, f3, f4, f5, f6, f7, f8⟩ := HBW.out.ninef; obtain ⟨z0, z1, z2, z3, z4, z5, z6, z7, z8⟩ := HBW.out.nine)
  clear f0 f1 f2 f3 f4 f5 f6 f7 f8 z0 z1 z2 z3 z4 z5 z6 z7 z8
  obtain ⟨q0, q1, q2, q3, q4, q5, q6, q7, q8⟩ := (HBW.out.nine_set (.int .i64 k) (.string num) (.string den) (.string text) (.bool on) (.int .i64 code) (.int .i64 rr) (.int .i64 rc) (.slice A2 n2 c2)).1.nine
  have hcn := chg_nine w2 W.heap.size (.int .i64 k) (.string num) (.string den) (.string text) (.bool on) (.int .i64 code) (.int .i64 rr) (.int .i64 rc) (.slice A2 n2 c2)
  have hsz := HB2.out.size
  have hsz2 : (((W.alloc (.cells #[.int .i64 0, .string ⟨#[]⟩, .string ⟨#[]⟩, .string ⟨#[]⟩, .bool false, .int .i64 0, .int .i64 0, .int .i64 0, .slice none 0 0] 26)).alloc (.cells #[.slice A n c, .int .i64 0] 120))).heap.size = W.heap.size + 2 := by simp
  rw [hsz2] at hsz
  have hfr := HFR.out
  unfold Fresh at hfr
  rw [hsz2] at hfr
  have hS := HS.out
  have hB := HB.out
  have h12 : Chg W.heap.size [] W w2 := (Chg.of HL0.out.bel []).trans (HB2.out.mono (by rw [hsz2]; omega) fun x hx => .inr (by rw [List.mem_singleton.1 hx]; omega))
  refine bodyPost_ret (v := .agg #[.int .i64 k, .string num, .string den, .string text, .bool on, .int .i64 code, .int .i64 rr, .int .i64 rc, .slice A2 n2 c2]) (by simp [results, Tryz.results105, go_sem, q0, q1, q2, q3, q4, q5, q6, q7, q8]) rfl ⟨k, num, den, text, on, code, rr, rc, A2, n2, c2, us, rfl, HP.out, reads_same2 HRS.out hcn.size (fun b o e hb => hcn.block b hb (by
    have := hfr b o e
    rw [List.mem_singleton]
    omega)), fun b o e => by have := hfr b o e; omega, h12.trans (hcn.mono (by omega) fun x hx => .inr (by rw [List.mem_singleton.1 hx]; exact Nat.le_refl _))⟩

end Go.Proofs.YtcnlonaighlmbaaGreatDoor
