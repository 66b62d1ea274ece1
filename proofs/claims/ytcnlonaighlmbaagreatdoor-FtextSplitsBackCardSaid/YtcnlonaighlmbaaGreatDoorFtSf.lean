/- ftext: an entry's closure, at each function; answers of any kind. -/
import Derived.Test.YtcnlonaighlmbaaGreatDoorFtG
import Derived.Test.YtcnlonaighlmbaaGreatDoorFtSb
import Derived.Test.YtcnlonaighlmbaaGreatDoorFtD
set_option linter.unusedSimpArgs false
set_option linter.unusedVariables false
namespace Go.Proofs.YtcnlonaighlmbaaGreatDoor
open Go.RowKit

set_option maxRecDepth 100000 in
set_option maxHeartbeats 4000000 in
/-- TEXTSPLIT. -/
theorem entG_Spl (B0 W1 W : World) (p : Nat) (A : Option Addr) (c n : Nat) (Φ : Vl → List Vl → Prop) (hp : Blk W p 89 #[.func (.func 83) #[] #[]]) (hB : B0.heap.size ≤ W1.heap.size) (h1 : Below W1.heap.size W1 W)
    (HF : ∀ W' q, Below W1.heap.size W1 W' → W1.heap.size ≤ q → Blk W' q 120 #[.slice A n c, .int .i64 0] → Calls Tryz.prog 83 #[.pointer (some ⟨q, 0, none⟩)] W' (ResG B0 W' [q] Φ)) :
    Calls Tryz.prog 105 #[.slice A n c, .pointer (some ⟨p, 0, none⟩)] W (ResG B0 W [] Φ) := by
  have HL0 := Lib.hid (((Loc.start W).alloc' rfl 26 #[.int .i64 0, .string ⟨#[]⟩, .string ⟨#[]⟩, .string ⟨#[]⟩, .bool false, .int .i64 0, .int .i64 0, .int .i64 0, .slice none 0 0]).alloc' (g := W.heap.size + 1) (by simp) 120 #[.slice A n c, .int .i64 0])
  have p0 := ((hp.alloc (.cells #[.int .i64 0, .string ⟨#[]⟩, .string ⟨#[]⟩, .string ⟨#[]⟩, .bool false, .int .i64 0, .int .i64 0, .int .i64 0, .slice none 0 0] 26))).cell 0
  simp only [List.getElem?_toArray, List.getElem?_cons_succ, List.getElem?_cons_zero] at p0
  have hW1 := h1.size
  have HF0 := Lib.hid (HF _ (W.heap.size + 1) (h1.trans (HL0.out.bel.mono hW1)) (by omega) (HL0.out.blk (g := W.heap.size + 1) (t := 120) (List.mem_cons_self ..)))
  have HS := Lib.hid hW1
  have HB := Lib.hid hB
  clear hp HF h1 hB hW1
  go_enter Tryz.func105, Tryz.ntmps105
  go_upto_region 99 with (go_at_call 83; (with_reducible refine HF0.out.mono ?_); rintro e w2 ⟨k, num, den, text, on, code, rr, rc, A2, n2, c2, us, rfl, hP, hr, hf, hb⟩; have HP := Lib.hid hP; have HRS := Lib.hid hr; have HFR := Lib.hid hf; have HB2 := Lib.hid hb; have HBW := Lib.hid (hb.blk (HL0.out.blk (g := W.heap.size) (t := 26) (List.mem_cons_of_mem _ (List.mem_cons_self ..))) (by simp; omega) (by simp)); clear hP hr hf hb p0; obtain ⟨f0, f1, f2, f3, f4, f5, f6, f7, f8⟩ := HBW.out.ninef; obtain ⟨z0, z1, z2, z3, z4, z5, z6, z7, z8⟩ := HBW.out.nine)
  clear f0 f1 f2 f3 f4 f5 f6 f7 f8 z0 z1 z2 z3 z4 z5 z6 z7 z8
  obtain ⟨q0, q1, q2, q3, q4, q5, q6, q7, q8⟩ := (HBW.out.nine_set (.int .i64 k) (.string num) (.string den) (.string text) (.bool on) (.int .i64 code) (.int .i64 rr) (.int .i64 rc) (.slice A2 n2 c2)).1.nine
  have hcn := chg_nine w2 W.heap.size (.int .i64 k) (.string num) (.string den) (.string text) (.bool on) (.int .i64 code) (.int .i64 rr) (.int .i64 rc) (.slice A2 n2 c2)
  have hsz := HB2.out.size
  have hsz2 : (((W.alloc (.cells #[.int .i64 0, .string ⟨#[]⟩, .string ⟨#[]⟩, .string ⟨#[]⟩, .bool false, .int .i64 0, .int .i64 0, .int .i64 0, .slice none 0 0] 26)).alloc (.cells #[.slice A n c, .int .i64 0] 120))).heap.size = W.heap.size + 2 := by simp
  rw [hsz2] at hsz
  have hfr := HFR.out
  unfold Fresh at hfr
  rw [hsz2] at hfr
  have hS := HS.out
  have hB := HB.out
  have h12 : Chg W.heap.size [] W w2 := (Chg.of HL0.out.bel []).trans (HB2.out.mono (by rw [hsz2]; omega) fun x hx => .inr (by rw [List.mem_singleton.1 hx]; omega))
  refine bodyPost_ret (v := .agg #[.int .i64 k, .string num, .string den, .string text, .bool on, .int .i64 code, .int .i64 rr, .int .i64 rc, .slice A2 n2 c2]) (by simp [results, Tryz.results105, go_sem, q0, q1, q2, q3, q4, q5, q6, q7, q8]) rfl ⟨k, num, den, text, on, code, rr, rc, A2, n2, c2, us, rfl, HP.out, reads_same2 HRS.out hcn.size (fun b o e hb => hcn.block b hb (by
    have := hfr b o e
    rw [List.mem_singleton]
    omega)), fun b o e => by have := hfr b o e; omega, h12.trans (hcn.mono (by omega) fun x hx => .inr (by rw [List.mem_singleton.1 hx]; exact Nat.le_refl _))⟩

set_option maxRecDepth 100000 in
set_option maxHeartbeats 4000000 in
/-- TEXTJOIN. -/
theorem entG_Tj (B0 W1 W : World) (p : Nat) (A : Option Addr) (c n : Nat) (Φ : Vl → List Vl → Prop) (hp : Blk W p 89 #[.func (.func 82) #[] #[]]) (hB : B0.heap.size ≤ W1.heap.size) (h1 : Below W1.heap.size W1 W)
    (HF : ∀ W' q, Below W1.heap.size W1 W' → W1.heap.size ≤ q → Blk W' q 120 #[.slice A n c, .int .i64 0] → Calls Tryz.prog 82 #[.pointer (some ⟨q, 0, none⟩)] W' (ResG B0 W' [q] Φ)) :
    Calls Tryz.prog 105 #[.slice A n c, .pointer (some ⟨p, 0, none⟩)] W (ResG B0 W [] Φ) := by
  have HL0 := Lib.hid (((Loc.start W).alloc' rfl 26 #[.int .i64 0, .string ⟨#[]⟩, .string ⟨#[]⟩, .string ⟨#[]⟩, .bool false, .int .i64 0, .int .i64 0, .int .i64 0, .slice none 0 0]).alloc' (g := W.heap.size + 1) (by simp) 120 #[.slice A n c, .int .i64 0])
  have p0 := ((hp.alloc (.cells #[.int .i64 0, .string ⟨#[]⟩, .string ⟨#[]⟩, .string ⟨#[]⟩, .bool false, .int .i64 0, .int .i64 0, .int .i64 0, .slice none 0 0] 26))).cell 0
  simp only [List.getElem?_toArray, List.getElem?_cons_succ, List.getElem?_cons_zero] at p0
  have hW1 := h1.size
  have HF0 := Lib.hid (HF _ (W.heap.size + 1) (h1.trans (HL0.out.bel.mono hW1)) (by omega) (HL0.out.blk (g := W.heap.size + 1) (t := 120) (List.mem_cons_self ..)))
  have HS := Lib.hid hW1
  have HB := Lib.hid hB
  clear hp HF h1 hB hW1
  go_enter Tryz.func105, Tryz.ntmps105
  go_upto_region 99 with (go_at_call 82; (with_reducible refine HF0.out.mono ?_); rintro e w2 ⟨k, num, den, text, on, code, rr, rc, A2, n2, c2, us, rfl, hP, hr, hf, hb⟩; have HP := Lib.hid hP; have HRS := Lib.hid hr; have HFR := Lib.hid hf; have HB2 := Lib.hid hb; have HBW := Lib.hid (hb.blk (HL0.out.blk (g := W.heap.size) (t := 26) (List.mem_cons_of_mem _ (List.mem_cons_self ..))) (by simp; omega) (by simp)); clear hP hr hf hb p0; obtain ⟨f0, f1, f2, f3, f4, f5, f6, f7, f8⟩ := HBW.out.ninef; obtain ⟨z0, z1, z2, z3, z4, z5, z6, z7, z8⟩ := HBW.out.nine)
  clear f0 f1 f2 f3 f4 f5 f6 f7 f8 z0 z1 z2 z3 z4 z5 z6 z7 z8
  obtain ⟨q0, q1, q2, q3, q4, q5, q6, q7, q8⟩ := (HBW.out.nine_set (.int .i64 k) (.string num) (.string den) (.string text) (.bool on) (.int .i64 code) (.int .i64 rr) (.int .i64 rc) (.slice A2 n2 c2)).1.nine
  have hcn := chg_nine w2 W.heap.size (.int .i64 k) (.string num) (.string den) (.string text) (.bool on) (.int .i64 code) (.int .i64 rr) (.int .i64 rc) (.slice A2 n2 c2)
  have hsz := HB2.out.size
  have hsz2 : (((W.alloc (.cells #[.int .i64 0, .string ⟨#[]⟩, .string ⟨#[]⟩, .string ⟨#[]⟩, .bool false, .int .i64 0, .int .i64 0, .int .i64 0, .slice none 0 0] 26)).alloc (.cells #[.slice A n c, .int .i64 0] 120))).heap.size = W.heap.size + 2 := by simp
  rw [hsz2] at hsz
  have hfr := HFR.out
  unfold Fresh at hfr
  rw [hsz2] at hfr
  have hS := HS.out
  have hB := HB.out
  have h12 : Chg W.heap.size [] W w2 := (Chg.of HL0.out.bel []).trans (HB2.out.mono (by rw [hsz2]; omega) fun x hx => .inr (by rw [List.mem_singleton.1 hx]; omega))
  refine bodyPost_ret (v := .agg #[.int .i64 k, .string num, .string den, .string text, .bool on, .int .i64 code, .int .i64 rr, .int .i64 rc, .slice A2 n2 c2]) (by simp [results, Tryz.results105, go_sem, q0, q1, q2, q3, q4, q5, q6, q7, q8]) rfl ⟨k, num, den, text, on, code, rr, rc, A2, n2, c2, us, rfl, HP.out, reads_same2 HRS.out hcn.size (fun b o e hb => hcn.block b hb (by
    have := hfr b o e
    rw [List.mem_singleton]
    omega)), fun b o e => by have := hfr b o e; omega, h12.trans (hcn.mono (by omega) fun x hx => .inr (by rw [List.mem_singleton.1 hx]; exact Nat.le_refl _))⟩

set_option maxRecDepth 100000 in
set_option maxHeartbeats 4000000 in
/-- SUBSTITUTE. -/
theorem entG_Sub (B0 W1 W : World) (p : Nat) (A : Option Addr) (c n : Nat) (Φ : Vl → List Vl → Prop) (hp : Blk W p 89 #[.func (.func 69) #[] #[]]) (hB : B0.heap.size ≤ W1.heap.size) (h1 : Below W1.heap.size W1 W)
    (HF : ∀ W' q, Below W1.heap.size W1 W' → W1.heap.size ≤ q → Blk W' q 120 #[.slice A n c, .int .i64 0] → Calls Tryz.prog 69 #[.pointer (some ⟨q, 0, none⟩)] W' (ResG B0 W' [q] Φ)) :
    Calls Tryz.prog 105 #[.slice A n c, .pointer (some ⟨p, 0, none⟩)] W (ResG B0 W [] Φ) := by
  have HL0 := Lib.hid (((Loc.start W).alloc' rfl 26 #[.int .i64 0, .string ⟨#[]⟩, .string ⟨#[]⟩, .string ⟨#[]⟩, .bool false, .int .i64 0, .int .i64 0, .int .i64 0, .slice none 0 0]).alloc' (g := W.heap.size + 1) (by simp) 120 #[.slice A n c, .int .i64 0])
  have p0 := ((hp.alloc (.cells #[.int .i64 0, .string ⟨#[]⟩, .string ⟨#[]⟩, .string ⟨#[]⟩, .bool false, .int .i64 0, .int .i64 0, .int .i64 0, .slice none 0 0] 26))).cell 0
  simp only [List.getElem?_toArray, List.getElem?_cons_succ, List.getElem?_cons_zero] at p0
  have hW1 := h1.size
  have HF0 := Lib.hid (HF _ (W.heap.size + 1) (h1.trans (HL0.out.bel.mono hW1)) (by omega) (HL0.out.blk (g := W.heap.size + 1) (t := 120) (List.mem_cons_self ..)))
  have HS := Lib.hid hW1
  have HB := Lib.hid hB
  clear hp HF h1 hB hW1
  go_enter Tryz.func105, Tryz.ntmps105
  go_upto_region 99 with (go_at_call 69; (with_reducible refine HF0.out.mono ?_); rintro e w2 ⟨k, num, den, text, on, code, rr, rc, A2, n2, c2, us, rfl, hP, hr, hf, hb⟩; have HP := Lib.hid hP; have HRS := Lib.hid hr; have HFR := Lib.hid hf; have HB2 := Lib.hid hb; have HBW := Lib.hid (hb.blk (HL0.out.blk (g := W.heap.size) (t := 26) (List.mem_cons_of_mem _ (List.mem_cons_self ..))) (by simp; omega) (by simp)); clear hP hr hf hb p0; obtain ⟨f0, f1, f2, f3, f4, f5, f6, f7, f8⟩ := HBW.out.ninef; obtain ⟨z0, z1, z2, z3, z4, z5, z6, z7, z8⟩ := HBW.out.nine)
  clear f0 f1 f2 f3 f4 f5 f6 f7 f8 z0 z1 z2 z3 z4 z5 z6 z7 z8
  obtain ⟨q0, q1, q2, q3, q4, q5, q6, q7, q8⟩ := (HBW.out.nine_set (.int .i64 k) (.string num) (.string den) (.string text) (.bool on) (.int .i64 code) (.int .i64 rr) (.int .i64 rc) (.slice A2 n2 c2)).1.nine
  have hcn := chg_nine w2 W.heap.size (.int .i64 k) (.string num) (.string den) (.string text) (.bool on) (.int .i64 code) (.int .i64 rr) (.int .i64 rc) (.slice A2 n2 c2)
  have hsz := HB2.out.size
  have hsz2 : (((W.alloc (.cells #[.int .i64 0, .string ⟨#[]⟩, .string ⟨#[]⟩, .string ⟨#[]⟩, .bool false, .int .i64 0, .int .i64 0, .int .i64 0, .slice none 0 0] 26)).alloc (.cells #[.slice A n c, .int .i64 0] 120))).heap.size = W.heap.size + 2 := by simp
  rw [hsz2] at hsz
  have hfr := HFR.out
  unfold Fresh at hfr
  rw [hsz2] at hfr
  have hS := HS.out
  have hB := HB.out
  have h12 : Chg W.heap.size [] W w2 := (Chg.of HL0.out.bel []).trans (HB2.out.mono (by rw [hsz2]; omega) fun x hx => .inr (by rw [List.mem_singleton.1 hx]; omega))
  refine bodyPost_ret (v := .agg #[.int .i64 k, .string num, .string den, .string text, .bool on, .int .i64 code, .int .i64 rr, .int .i64 rc, .slice A2 n2 c2]) (by simp [results, Tryz.results105, go_sem, q0, q1, q2, q3, q4, q5, q6, q7, q8]) rfl ⟨k, num, den, text, on, code, rr, rc, A2, n2, c2, us, rfl, HP.out, reads_same2 HRS.out hcn.size (fun b o e hb => hcn.block b hb (by
    have := hfr b o e
    rw [List.mem_singleton]
    omega)), fun b o e => by have := hfr b o e; omega, h12.trans (hcn.mono (by omega) fun x hx => .inr (by rw [List.mem_singleton.1 hx]; exact Nat.le_refl _))⟩

end Go.Proofs.YtcnlonaighlmbaaGreatDoor

namespace Go.Proofs.YtcnlonaighlmbaaGreatDoor
open Go.RowKit

theorem good_tx {L : List ByteArray} (h : ∀ t ∈ L, txtE t = 0) : GoodI (L.map tV) := fun u hu => by
  obtain ⟨t, ht, rfl⟩ := List.mem_map.1 hu
  have hs := tV_sc (h t ht)
  exact ⟨hs.ok, ⟨hs.s1, hs.s2, hs.s3⟩, hs.n0⟩
theorem pha_hd {L : List ByteArray} (h1 : 1 ≤ L.length) (h2 : L.length ≤ 1000) : ∀ h us, PhA L h us → HdOk h us := fun h us hP => by
  obtain ⟨rfl, rfl⟩ := hP
  refine .inr ⟨show (1 : Int) ≤ 1 by decide, show (1 : Int) ≤ 100 by decide, show (0 : Int) ≤ (L.length : Int) by omega, show (L.length : Int) ≤ 1000 by omega, ?_, ?_⟩
  · rw [List.length_map]; omega
  · rw [List.length_map]; omega
theorem pha_ar {L : List ByteArray} {W : World} (h1 : 1 ≤ L.length) (h2 : L.length ≤ 1000) {A : Option Addr} {n c : Nat} (hr : Reads 9 csV W (.slice A n c) (L.map tV)) : AR W (arrU 1 L.length A n c) 1 L.length (L.map tV) := by
  have hn : n = L.length := by
    obtain ⟨A', c', e, -⟩ := hr
    injection e with e1 e2 e3
    rw [e2, List.length_map]
  exact ⟨⟨A, n, c, rfl, by rw [Nat.one_mul]; exact hn, hr⟩, by decide, by decide, h1, h2, by omega⟩
/-- TEXTSPLIT. -/
theorem c_Spl (W : World) (A : Option Addr) (c : Nat) (cs ds : List (List UInt8)) (hcs : ChsOk cs) (hds : ChsOk ds) (hsz : (tx cs).size ≤ 300) (hsd : (tx ds).size ≤ 32767) (hne : ds ≠ []) (he : VEnv W) (hA : Reads 9 csV W (.slice A 2 c) [tV (tx cs), tV (tx ds)]) :
    Calls Tryz.prog 8 #[.string ⟨#[84, 69, 88, 84, 83, 80, 76, 73, 84]⟩, .slice A 2 c] W fun e w' => ∃ b o cc, e = .returned (.agg #[.int .i64 5, .string ⟨#[]⟩, .string ⟨#[]⟩, .string ⟨#[]⟩, .bool false, .int .i64 0, .int .i64 1, .int .i64 ((pcs (tx cs) (tx ds)).length : Int), .slice (some ⟨b, o, none⟩) (pcs (tx cs) (tx ds)).length cc]) ∧ AR w' (arrU 1 (pcs (tx cs) (tx ds)).length (some ⟨b, o, none⟩) (pcs (tx cs) (tx ds)).length cc) 1 (pcs (tx cs) (tx ds)).length ((pcs (tx cs) (tx ds)).map tV) ∧ Below W.heap.size W w' := by
  have hp1 := tx_pos hds hne
  have hl1 : 1 ≤ (pcs (tx cs) (tx ds)).length := by rw [pcs_len hp1]; omega
  have hl2 : (pcs (tx cs) (tx ds)).length ≤ 1000 := by rw [pcs_len hp1]; have := pcs_count (s := tx cs) hp1; omega
  have hok := pcs_ok hcs hds hne (by omega)
  have hs1 : Sc (tV (tx cs)) := tx_sc hcs (by omega)
  have hs2 : Sc (tV (tx ds)) := tx_sc hds hsd
  have hsc : ∀ i, i < 2 → Sc ([tV (tx cs), tV (tx ds)] : List Vl)[i]! := fun i hi => by
    rcases (show i = 0 ∨ i = 1 by omega) with rfl | rfl
    · exact hs1
    · exact hs2
  refine (tx_n W ⟨#[84, 69, 88, 84, 83, 80, 76, 73, 84]⟩ (⟨#[84, 69, 88, 84, 83, 80, 76, 73, 84]⟩, 2, 3, ⟨#[115]⟩, (83, none)) 83 rfl (by kernel_rfl) A 2 c (PhA (pcs (tx cs) (tx ds))) [tV (tx cs), tV (tx ds)] (pha_hd hl1 hl2) he hA (by decide) (by decide) (by decide) (by decide) (by decide +kernel) (fun W' => trim_sa ⟨#[115]⟩ (by decide +kernel) (by decide +kernel) W') (fun i hi => ⟨115, fun W' => let_any 115 i (by omega) W', fun _ => (hsc i hi).k5⟩) (fun i hi W' hW => check_t' _ W' (he.below hW) (hsc i hi).ok (hsc i hi).s1 (hsc i hi).s2 (hsc i hi).s3)
    (fun k num den text on code rr rc A2 n2 c2 us W' he' hP hr => ?_) (fun B0 W1 W' p A1 c1 hp hB h1 HF => entG_Spl B0 W1 W' p A1 c1 2 _ hp hB h1 HF)
    (fun B0 W0 W'' q A1 c1 hB h0 hw hq hb hA' => fSpl_any B0 W0 W'' q A1 c1 cs ds hcs hds hsz hsd hne (he.below (below_tr hB h0)) hw hq hb hA')).mono fun e w' h => ?_
  · obtain ⟨h1, rfl⟩ := hP
    injection h1 with g1 g2 g3 g4 g5 g6 g7 g8
    subst g1 g2 g3 g4 g5 g6 g7 g8
    have ha := pha_ar hl1 hl2 hr
    exact valid_ar W' _ 1 _ _ he' ha (good_tx hok)
  · obtain ⟨k, num, den, text, on, code, rr, rc, A2, n2, c2, us, rfl, ⟨h1, rfl⟩, hr, -, -, hb⟩ := h
    injection h1 with g1 g2 g3 g4 g5 g6 g7 g8
    subst g1 g2 g3 g4 g5 g6 g7 g8
    obtain ⟨b, o, rfl⟩ : ∃ b o, A2 = some ⟨b, o, none⟩ := by
      obtain ⟨A', c', e, -, -, h3⟩ := hr
      injection e with e1 e2 e3
      obtain ⟨b, o, e4, -⟩ := h3 (by rw [List.length_map]; omega)
      exact ⟨b, o, e1.trans e4⟩
    have hn : n2 = (pcs (tx cs) (tx ds)).length := by
      obtain ⟨A', c', e, -⟩ := hr
      injection e with e1 e2 e3
      rw [e2, List.length_map]
    subst hn
    exact ⟨b, o, c2, rfl, pha_ar hl1 hl2 hr, hb⟩
/-- TEXTJOIN. -/
theorem c_Tj (W : World) (A : Option Addr) (c : Nat) (sep : ByteArray) (u : Vl) (C : Nat) (tL : List ByteArray) (hsep : txtE sep = 0) (hu : AR W u 1 C (tL.map tV)) (hT : ∀ t ∈ tL, txtE t = 0) (s : ByteArray) (hs : jnT tL sep = s) (hok : txtE s = 0) (he : VEnv W) (hA : Reads 9 csV W (.slice A 3 c) [tV sep, bV false, u]) :
    Calls Tryz.prog 8 #[.string ⟨#[84, 69, 88, 84, 74, 79, 73, 78]⟩, .slice A 3 c] W fun e w' => e = .returned (tV s).v ∧ Below W.heap.size W w' := by
  have hs1 : Sc (tV sep) := tV_sc hsep
  have hs2 : Sc (bV false) := bV_sc false
  have hv : Sc (tV s) := tV_sc hok
  refine (tx_n W ⟨#[84, 69, 88, 84, 74, 79, 73, 78]⟩ (⟨#[84, 69, 88, 84, 74, 79, 73, 78]⟩, 3, 255, ⟨#[115, 115, 97]⟩, (82, none)) 82 rfl (by kernel_rfl) A 3 c (PhV (tV s)) [tV sep, bV false, u] (hd_1 hv) he hA (by decide) (by decide) (by decide) (by decide) (by decide +kernel) (fun W' => trim_sa ⟨#[115, 115, 97]⟩ (by decide +kernel) (by decide +kernel) W') (fun i hi => ?_) (fun i hi W' hW => ?_) (vd_1 hv) (fun B0 W1 W' p A1 c1 hp hB h1 HF => entG_Tj B0 W1 W' p A1 c1 3 _ hp hB h1 HF)
    (fun B0 W0 W'' q A1 c1 hB h0 hw hq hb hA' => (fTj_any W0 W'' q A1 c1 sep u C tL hsep (hu.below (below_tr hB h0)) hT s hs hok (he.below (below_tr hB h0)) hw hq hb hA').mono fun e w' h => resG_1 hv B0 W'' q h)).mono fun e w' h => vres_1 hv h
  · rcases (show i = 0 ∨ i = 1 ∨ i = 2 by omega) with rfl | rfl | rfl
    · exact ⟨115, let_j0, fun _ => hs1.k5⟩
    · exact ⟨115, let_j1, fun _ => hs2.k5⟩
    · exact ⟨97, let_j2, fun h => absurd h (by decide)⟩
  · rcases (show i = 0 ∨ i = 1 ∨ i = 2 by omega) with rfl | rfl | rfl
    · exact check_t' _ W' (he.below hW) hs1.ok hs1.s1 hs1.s2 hs1.s3
    · exact check_t' _ W' (he.below hW) hs2.ok hs2.s1 hs2.s2 hs2.s3
    · exact check_ar W' u 1 C _ (he.below hW) (hu.below hW) (good_tx hT)

/-- SUBSTITUTE. -/
theorem c_Sub (W : World) (A : Option Addr) (c : Nat) (cs ds es : List (List UInt8)) (hcs : ChsOk cs) (hds : ChsOk ds) (hes : ChsOk es) (hsz : (tx cs).size ≤ 300) (hsd : (tx ds).size ≤ 32767) (hse : (tx es).size ≤ 20) (hne : ds ≠ []) (s : ByteArray) (hs : (⟨(Lib.replaceAll (tx cs).data.toList (tx ds).data.toList (tx es).data.toList).toArray⟩ : ByteArray) = s) (hok : txtE s = 0) (he : VEnv W) (hA : Reads 9 csV W (.slice A 3 c) [tV (tx cs), tV (tx ds), tV (tx es)]) :
    Calls Tryz.prog 8 #[.string ⟨#[83, 85, 66, 83, 84, 73, 84, 85, 84, 69]⟩, .slice A 3 c] W fun e w' => e = .returned (tV s).v ∧ Below W.heap.size W w' :=
  call_1 W ⟨#[83, 85, 66, 83, 84, 73, 84, 85, 84, 69]⟩ 3 4 115 69 (by kernel_rfl) (.inl rfl) A 3 c (tV s) [tV (tx cs), tV (tx ds), tV (tx es)] (tV_sc hok) (fun u hu => by
      simp only [List.mem_cons, List.not_mem_nil, or_false] at hu
      rcases hu with rfl | rfl | rfl
      · exact tx_sc hcs (by omega)
      · exact tx_sc hds hsd
      · exact tx_sc hes (by omega)
      ) he hA (by decide) (by decide) (by decide) (by decide)
    (fun B0 W1 W' p A1 c1 hp hB h1 HF => entG_Sub B0 W1 W' p A1 c1 3 _ hp hB h1 HF)
    (fun W0 W'' q A1 c1 he0 hw hq hb hA' => fSub_any W0 W'' q A1 c1 cs ds es hcs hds hes hsz hsd hse hne s hs hok he0 hw hq hb hA')

end Go.Proofs.YtcnlonaighlmbaaGreatDoor
