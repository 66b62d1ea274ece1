/- ftext: an entry's closure, at each function; answers of any kind. -/
import Derived.Test.YtcnlonaighlmbaaGreatDoorFtG
import Derived.Test.YtcnlonaighlmbaaGreatDoorFtI
import Derived.Test.YtcnlonaighlmbaaGreatDoorFtD
set_option linter.unusedSimpArgs false
set_option linter.unusedVariables false
namespace Go.Proofs.YtcnlonaighlmbaaGreatDoor
open Go.RowKit

set_option maxRecDepth 100000 in
set_option maxHeartbeats 4000000 in
/-- FIND. -/
theorem entG_Fin (B0 W1 W : World) (p : Nat) (A : Option Addr) (c n : Nat) (Φ : Vl → List Vl → Prop) (hp : Blk W p 89 #[.func (.func 64) #[] #[]]) (hB : B0.heap.size ≤ W1.heap.size) (h1 : Below W1.heap.size W1 W)
    (HF : ∀ W' q, Below W1.heap.size W1 W' → W1.heap.size ≤ q → Blk W' q 120 #[.slice A n c, .int .i64 0] → Calls Tryz.prog 64 #[.pointer (some ⟨q, 0, none⟩)] W' (ResG B0 W' [q] Φ)) :
    Calls Tryz.prog 105 #[.slice A n c, .pointer (some ⟨p, 0, none⟩)] W (ResG B0 W [] Φ) := by
  have HL0 := Lib.hid (((Loc.start W).alloc' rfl 26 #[.int .i64 0, .string ⟨#[]⟩, .string ⟨#[]⟩, .string ⟨#[]⟩, .bool false, .int .i64 0, .int .i64 0, .int .i64 0, .slice none 0 0]).alloc' (g := W.heap.size + 1) (by simp) 120 #[.slice A n c, .int .i64 0])
  have p0 := ((hp.alloc (.cells #[.int .i64 0, .string ⟨#[]⟩, .string ⟨#[]⟩, .string ⟨#[]⟩, .bool false, .int .i64 0, .int .i64 0, .int .i64 0, .slice none 0 0] 26))).cell 0
  simp only [List.getElem?_toArray, List.getElem?_cons_succ, List.getElem?_cons_zero] at p0
  have hW1 := h1.size
  have HF0 := Lib.hid (HF _ (W.heap.size + 1) (h1.trans (HL0.out.bel.mono hW1)) (by omega) (HL0.out.blk (g := W.heap.size + 1) (t := 120) (List.mem_cons_self ..)))
  have HS := Lib.hid hW1
  have HB := Lib.hid hB
  clear hp HF h1 hB hW1
  go_enter Tryz.func105, Tryz.ntmps105
  go_upto_region 99 with (go_at_call 64; (with_reducible refine HF0.out.mono ?_); rintro e w2 ⟨k, num, den, text, on, code, rr, rc, A2, n2, c2, us, rfl, hP, hr, hf, hb⟩; have HP := Lib.hid hP; have HRS := Lib.hid hr; have HFR := Lib.hid hf; have HB2 := Lib.hid hb; have HBW := Lib.hid (hb.blk (HL0.out.blk (g := W.heap.size) (t := 26) (List.mem_cons_of_mem _ (List.mem_cons_self ..))) (by simp; omega) (by simp)); clear hP hr hf hb p0; obtain ⟨f0, f1, f2, f3, f4, f5, f6, f7, f8⟩ := HBW.out.ninef; obtain ⟨z0, z1, z2, z3, z4, z5, z6, z7, z8⟩ := HBW.out.nine)
  clear f0 f1 f2 f3 f4 f5 f6 f7 f8 z0 z1 z2 z3 z4 z5 z6 z7 z8
  obtain ⟨q0, q1, q2, q3, q4, q5, q6, q7, q8⟩ := (HBW.out.nine_set (.int .i64 k) (.string num) (.string den) (.string text) (.bool on) (.int .i64 code) (.int .i64 rr) (.int .i64 rc) (.slice A2 n2 c2)).1.nine
  have hcn := chg_nine w2 W.heap.size (.int .i64 k) (.string num) (.string den) (.string text) (.bool on) (.int .i64 code) (.int .i64 rr) (.int .i64 rc) (.slice A2 n2 c2)
  have hsz := HB2.out.size
  have hsz2 : (((W.alloc (.cells #[.int .i64 0, .string ⟨#[]⟩, .string ⟨#[]⟩, .string ⟨#[]⟩, .bool false, .int .i64 0, .int .i64 0, .int .i64 0, .slice none 0 0] 26)).alloc (.cells #[.slice A n c, .int .i64 0] 120))).heap.size = W.heap.size + 2 := by simp
  rw [hsz2] at hsz
  have hfr := HFR.out
  unfold Fresh at hfr
  rw [hsz2] at hfr
  have hS := HS.out
  have hB := HB.out
  have h12 : Chg W.heap.size [] W w2 := (Chg.of HL0.out.bel []).trans (HB2.out.mono (by rw [hsz2]; omega) fun x hx => .inr (by rw [List.mem_singleton.1 hx]; omega))
  refine bodyPost_ret (v := .agg #[.int .i64 k, .string num, .string den, .string text, .bool on, .int .i64 code, .int .i64 rr, .int .i64 rc, .slice A2 n2 c2]) (by simp [results, Tryz.results105, go_sem, q0, q1, q2, q3, q4, q5, q6, q7, q8]) rfl ⟨k, num, den, text, on, code, rr, rc, A2, n2, c2, us, rfl, HP.out, reads_same2 HRS.out hcn.size (fun b o e hb => hcn.block b hb (by
    have := hfr b o e
    rw [List.mem_singleton]
    omega)), fun b o e => by have := hfr b o e; omega, h12.trans (hcn.mono (by omega) fun x hx => .inr (by rw [List.mem_singleton.1 hx]; exact Nat.le_refl _))⟩

set_option maxRecDepth 100000 in
set_option maxHeartbeats 4000000 in
/-- TEXTBEFORE. -/
theorem entG_Bef (B0 W1 W : World) (p : Nat) (A : Option Addr) (c n : Nat) (Φ : Vl → List Vl → Prop) (hp : Blk W p 89 #[.func (.func 84) #[] #[]]) (hB : B0.heap.size ≤ W1.heap.size) (h1 : Below W1.heap.size W1 W)
    (HF : ∀ W' q, Below W1.heap.size W1 W' → W1.heap.size ≤ q → Blk W' q 120 #[.slice A n c, .int .i64 0] → Calls Tryz.prog 84 #[.pointer (some ⟨q, 0, none⟩)] W' (ResG B0 W' [q] Φ)) :
    Calls Tryz.prog 105 #[.slice A n c, .pointer (some ⟨p, 0, none⟩)] W (ResG B0 W [] Φ) := by
  have HL0 := Lib.hid (((Loc.start W).alloc' rfl 26 #[.int .i64 0, .string ⟨#[]⟩, .string ⟨#[]⟩, .string ⟨#[]⟩, .bool false, .int .i64 0, .int .i64 0, .int .i64 0, .slice none 0 0]).alloc' (g := W.heap.size + 1) (by simp) 120 #[.slice A n c, .int .i64 0])
  have p0 := ((hp.alloc (.cells #[.int .i64 0, .string ⟨#[]⟩, .string ⟨#[]⟩, .string ⟨#[]⟩, .bool false, .int .i64 0, .int .i64 0, .int .i64 0, .slice none 0 0] 26))).cell 0
  simp only [List.getElem?_toArray, List.getElem?_cons_succ, List.getElem?_cons_zero] at p0
  have hW1 := h1.size
  have HF0 := Lib.hid (HF _ (W.heap.size + 1) (h1.trans (HL0.out.bel.mono hW1)) (by omega) (HL0.out.blk (g := W.heap.size + 1) (t := 120) (List.mem_cons_self ..)))
  have HS := Lib.hid hW1
  have HB := Lib.hid hB
  clear hp HF h1 hB hW1
  go_enter Tryz.func105, Tryz.ntmps105
  go_upto_region 99 with (go_at_call 84; (with_reducible refine HF0.out.mono ?_); rintro e w2 ⟨k, num, den, text, on, code, rr, rc, A2, n2, c2, us, rfl, hP, hr, hf, hb⟩; have HP := Lib.hid hP; have HRS := Lib.hid hr; have HFR := Lib.hid hf; have HB2 := Lib.hid hb; have HBW := Lib.hid (hb.blk (HL0.out.blk (g := W.heap.size) (t := 26) (List.mem_cons_of_mem _ (List.mem_cons_self ..))) (by simp; omega) (by simp)); clear hP hr hf hb p0; obtain ⟨f0, f1, f2, f3, f4, f5, f6, f7, f8⟩ := HBW.out.ninef; obtain ⟨z0, z1, z2, z3, z4, z5, z6, z7, z8⟩ := HBW.out.nine)
  clear f0 f1 f2 f3 f4 f5 f6 f7 f8 z0 z1 z2 z3 z4 z5 z6 z7 z8
  obtain ⟨q0, q1, q2, q3, q4, q5, q6, q7, q8⟩ := (HBW.out.nine_set (.int .i64 k) (.string num) (.string den) (.string text) (.bool on) (.int .i64 code) (.int .i64 rr) (.int .i64 rc) (.slice A2 n2 c2)).1.nine
  have hcn := chg_nine w2 W.heap.size (.int .i64 k) (.string num) (.string den) (.string text) (.bool on) (.int .i64 code) (.int .i64 rr) (.int .i64 rc) (.slice A2 n2 c2)
  have hsz := HB2.out.size
  have hsz2 : (((W.alloc (.cells #[.int .i64 0, .string ⟨#[]⟩, .string ⟨#[]⟩, .string ⟨#[]⟩, .bool false, .int .i64 0, .int .i64 0, .int .i64 0, .slice none 0 0] 26)).alloc (.cells #[.slice A n c, .int .i64 0] 120))).heap.size = W.heap.size + 2 := by simp
  rw [hsz2] at hsz
  have hfr := HFR.out
  unfold Fresh at hfr
  rw [hsz2] at hfr
  have hS := HS.out
  have hB := HB.out
  have h12 : Chg W.heap.size [] W w2 := (Chg.of HL0.out.bel []).trans (HB2.out.mono (by rw [hsz2]; omega) fun x hx => .inr (by rw [List.mem_singleton.1 hx]; omega))
  refine bodyPost_ret (v := .agg #[.int .i64 k, .string num, .string den, .string text, .bool on, .int .i64 code, .int .i64 rr, .int .i64 rc, .slice A2 n2 c2]) (by simp [results, Tryz.results105, go_sem, q0, q1, q2, q3, q4, q5, q6, q7, q8]) rfl ⟨k, num, den, text, on, code, rr, rc, A2, n2, c2, us, rfl, HP.out, reads_same2 HRS.out hcn.size (fun b o e hb => hcn.block b hb (by
    have := hfr b o e
    rw [List.mem_singleton]
    omega)), fun b o e => by have := hfr b o e; omega, h12.trans (hcn.mono (by omega) fun x hx => .inr (by rw [List.mem_singleton.1 hx]; exact Nat.le_refl _))⟩

set_option maxRecDepth 100000 in
set_option maxHeartbeats 4000000 in
/-- FIND, where it stops. -/
theorem entP_Fin (W1 W : World) (p : Nat) (A : Option Addr) (c n j : Nat) (hp : Blk W p 89 #[.func (.func 64) #[] #[]]) (h1 : Below W1.heap.size W1 W)
    (HF : ∀ W' q, Below W1.heap.size W1 W' → W1.heap.size ≤ q → Blk W' q 120 #[.slice A n c, .int .i64 0] → Calls Tryz.prog 64 #[.pointer (some ⟨q, 0, none⟩)] W' (PanP j W' [q])) :
    Calls Tryz.prog 105 #[.slice A n c, .pointer (some ⟨p, 0, none⟩)] W (PanP j W []) := by
  have HL0 := Lib.hid (((Loc.start W).alloc' rfl 26 #[.int .i64 0, .string ⟨#[]⟩, .string ⟨#[]⟩, .string ⟨#[]⟩, .bool false, .int .i64 0, .int .i64 0, .int .i64 0, .slice none 0 0]).alloc' (g := W.heap.size + 1) (by simp) 120 #[.slice A n c, .int .i64 0])
  have p0 := ((hp.alloc (.cells #[.int .i64 0, .string ⟨#[]⟩, .string ⟨#[]⟩, .string ⟨#[]⟩, .bool false, .int .i64 0, .int .i64 0, .int .i64 0, .slice none 0 0] 26))).cell 0
  simp only [List.getElem?_toArray, List.getElem?_cons_succ, List.getElem?_cons_zero] at p0
  have hW1 := h1.size
  have HF0 := Lib.hid (HF _ (W.heap.size + 1) (h1.trans (HL0.out.bel.mono hW1)) (by omega) (HL0.out.blk (g := W.heap.size + 1) (t := 120) (List.mem_cons_self ..)))
  have HS := Lib.hid hW1
  clear hp HF h1 hW1
  go_enter Tryz.func105, Tryz.ntmps105
  go_wp2_with (go_at_call 64; (with_reducible refine HF0.out.mono ?_); rintro e w2 ⟨rfl, hb⟩; have HB2 := Lib.hid hb; clear hb)
  refine ⟨rfl, rfl, ?_⟩
  have hsz2 : (((W.alloc (.cells #[.int .i64 0, .string ⟨#[]⟩, .string ⟨#[]⟩, .string ⟨#[]⟩, .bool false, .int .i64 0, .int .i64 0, .int .i64 0, .slice none 0 0] 26)).alloc (.cells #[.slice A n c, .int .i64 0] 120))).heap.size = W.heap.size + 2 := by simp
  exact (Chg.of HL0.out.bel []).trans (HB2.out.mono (by rw [hsz2]; omega) fun x hx => .inr (by rw [List.mem_singleton.1 hx]; omega))

end Go.Proofs.YtcnlonaighlmbaaGreatDoor

set_option linter.unusedSimpArgs false
set_option linter.unusedVariables false
namespace Go.Proofs.YtcnlonaighlmbaaGreatDoor
open Go.RowKit

theorem flt_sc (j : Nat) (j1 : 1 ≤ j) (j8 : j ≤ 8) : Sc (fltU (j : Int)) := ⟨⟨show (0 : Int) ≤ 4 by decide, show (4 : Int) ≤ 4 by decide, by simp [fltU, Vl.zB, Lib.toList_data, frSame], fun h => absurd (show (4 : Int) = 1 from h) (by decide), fun h => absurd (show (4 : Int) = 2 from h) (by decide), fun _ => ⟨show (1 : Int) ≤ (j : Int) by omega, show (j : Int) ≤ 8 by omega⟩⟩, e_size, e_size, e_size, rfl, rfl, rfl, rfl⟩
/-- A call of a function with scalar arguments that stops. -/
theorem call_0 (W : World) (name : ByteArray) (lo hi : Int) (l : UInt8) (F : Nat) (hf : (tabL.find? fun y => sameT y.1 name) = some (name, lo, hi, ⟨#[l]⟩, (F, none))) (hl : l = 115 ∨ l = 97) (A : Option Addr) (n c : Nat) (avs : List Vl) (j : Nat) (j1 : 1 ≤ j) (j8 : j ≤ 8) (havs : ∀ u ∈ avs, Sc u) (he : VEnv W) (hA : Reads 9 csV W (.slice A n c) avs) (hn1 : 1 ≤ n) (hn2 : n ≤ 4) (h1 : lo ≤ (n : Int)) (h2 : (n : Int) ≤ hi)
    (hE : ∀ (W1 W' : World) (p : Nat) (A1 : Option Addr) (c1 : Nat), Blk W' p 89 #[.func (.func F) #[] #[]] → Below W1.heap.size W1 W' → (∀ W'' q, Below W1.heap.size W1 W'' → W1.heap.size ≤ q → Blk W'' q 120 #[.slice A1 n c1, .int .i64 0] → Calls Tryz.prog F #[.pointer (some ⟨q, 0, none⟩)] W'' (PanP j W'' [q])) → Calls Tryz.prog 105 #[.slice A1 n c1, .pointer (some ⟨p, 0, none⟩)] W' (PanP j W' []))
    (hF : ∀ (W0 W'' : World) (q : Nat) (A1 : Option Addr) (c1 : Nat), VEnv W0 → Below W0.heap.size W0 W'' → W0.heap.size ≤ q → Blk W'' q 120 #[.slice A1 n c1, .int .i64 0] → Reads 9 csV W0 (.slice A1 n c1) avs → Calls Tryz.prog F #[.pointer (some ⟨q, 0, none⟩)] W'' (PanP j W'' [q])) :
    Calls Tryz.prog 8 #[.string name, .slice A n c] W fun e w' => e = .returned (fltU (j : Int)).v ∧ Below W.heap.size W w' := by
  have hv := flt_sc j j1 j8
  have hlen : avs.length = n := by
    obtain ⟨A', c', e, -⟩ := hA
    injection e with e1 e2 e3
    exact e2.symm
  have hsc : ∀ i, i < n → Sc avs[i]! := fun i hi => by
    rw [getElem!_pos avs i (by omega)]
    exact havs _ (List.getElem_mem _)
  refine (tx_p W name (name, lo, hi, ⟨#[l]⟩, (F, none)) F rfl hf A n c (PhV (fltU (j : Int))) avs (hd_1 hv) he hA hn1 hn2 h1 h2 (by rcases hl with rfl | rfl <;> (dsimp only; decide +kernel)) (fun W' => ?_) (fun i hi => ⟨(l.toNat : Int), fun W' => let_any l i (by omega) W', fun _ => (hsc i hi).k5⟩) (fun i hi W' hW => check_t' _ W' (he.below hW) (hsc i hi).ok (hsc i hi).s1 (hsc i hi).s2 (hsc i hi).s3) (vd_1 hv) j j1 j8 ⟨rfl, rfl⟩ hE (fun B0 W0 W'' q A1 c1 hB h0 hw hq hb hA' => hF W0 W'' q A1 c1 (he.below (below_tr hB h0)) hw hq hb hA')).mono fun e w' h => vres_1 hv h
  rcases hl with rfl | rfl
  · exact trim_sa ⟨#[115]⟩ (by decide +kernel) (by decide +kernel) W'
  · exact trim_sa ⟨#[97]⟩ (by decide +kernel) (by decide +kernel) W'
/-- FIND. -/
theorem c_Fin (W : World) (A : Option Addr) (c : Nat) (cs ds : List (List UInt8)) (hcs : ChsOk cs) (hds : ChsOk ds) (hsz : (tx cs).size ≤ 32767) (hsd : (tx ds).size ≤ 32767) (n : Nat) (hn : n ≤ cs.length) (h1 : atC cs ds n = true) (h2 : ∀ m, m < n → atC cs ds m = false) (he : VEnv W) (hA : Reads 9 csV W (.slice A 2 c) [tV (tx ds), tV (tx cs)]) :
    Calls Tryz.prog 8 #[.string ⟨#[70, 73, 78, 68]⟩, .slice A 2 c] W fun e w' => e = .returned (nV (n + 1)).v ∧ Below W.heap.size W w' :=
  call_1 W ⟨#[70, 73, 78, 68]⟩ 2 3 115 64 (by kernel_rfl) (.inl rfl) A 2 c (nV (n + 1)) [tV (tx ds), tV (tx cs)] (nV_sc _ (by have := tx_le hcs hsz; omega)) (fun u hu => by
      simp only [List.mem_cons, List.not_mem_nil, or_false] at hu
      rcases hu with rfl | rfl
      · exact tx_sc hds hsd
      · exact tx_sc hcs hsz
      ) he hA (by decide) (by decide) (by decide) (by decide)
    (fun B0 W1 W' p A1 c1 hp hB h1 HF => entG_Fin B0 W1 W' p A1 c1 2 _ hp hB h1 HF)
    (fun W0 W'' q A1 c1 he0 hw hq hb hA' => fFin_any W0 W'' q A1 c1 cs ds hcs hds hsz hsd n hn h1 h2 he0 hw hq hb hA')

/-- TEXTBEFORE. -/
theorem c_Bef (W : World) (A : Option Addr) (c : Nat) (cs ds : List (List UInt8)) (hcs : ChsOk cs) (hds : ChsOk ds) (hsz : (tx cs).size ≤ 32767) (hsd : (tx ds).size ≤ 32767) (hne : ds ≠ []) (n : Nat) (hn : n ≤ cs.length) (h1 : atC cs ds n = true) (h2 : ∀ m, m < n → atC cs ds m = false) (he : VEnv W) (hA : Reads 9 csV W (.slice A 2 c) [tV (tx cs), tV (tx ds)]) :
    Calls Tryz.prog 8 #[.string ⟨#[84, 69, 88, 84, 66, 69, 70, 79, 82, 69]⟩, .slice A 2 c] W fun e w' => e = .returned (tV (tx (cs.take n))).v ∧ Below W.heap.size W w' :=
  call_1 W ⟨#[84, 69, 88, 84, 66, 69, 70, 79, 82, 69]⟩ 2 3 115 84 (by kernel_rfl) (.inl rfl) A 2 c (tV (tx (cs.take n))) [tV (tx cs), tV (tx ds)] (tx_sc (hcs.take n) (Nat.le_trans (tx_take_le cs n) hsz)) (fun u hu => by
      simp only [List.mem_cons, List.not_mem_nil, or_false] at hu
      rcases hu with rfl | rfl
      · exact tx_sc hcs hsz
      · exact tx_sc hds hsd
      ) he hA (by decide) (by decide) (by decide) (by decide)
    (fun B0 W1 W' p A1 c1 hp hB h1 HF => entG_Bef B0 W1 W' p A1 c1 2 _ hp hB h1 HF)
    (fun W0 W'' q A1 c1 he0 hw hq hb hA' => fBef_any W0 W'' q A1 c1 cs ds hcs hds hsz hsd hne n hn h1 h2 he0 hw hq hb hA')

/-- FIND, where it is not found. -/
theorem c_Fno (W : World) (A : Option Addr) (c : Nat) (cs ds : List (List UInt8)) (hcs : ChsOk cs) (hds : ChsOk ds) (hsz : (tx cs).size ≤ 32767) (hsd : (tx ds).size ≤ 32767) (hno : ∀ m, m ≤ cs.length → atC cs ds m = false) (he : VEnv W) (hA : Reads 9 csV W (.slice A 2 c) [tV (tx ds), tV (tx cs)]) :
    Calls Tryz.prog 8 #[.string ⟨#[70, 73, 78, 68]⟩, .slice A 2 c] W fun e w' => e = .returned (fltU ((2 : Nat) : Int)).v ∧ Below W.heap.size W w' :=
  call_0 W ⟨#[70, 73, 78, 68]⟩ 2 3 115 64 (by kernel_rfl) (.inl rfl) A 2 c [tV (tx ds), tV (tx cs)] 2 (by decide) (by decide) (fun u hu => by
      simp only [List.mem_cons, List.not_mem_nil, or_false] at hu
      rcases hu with rfl | rfl
      · exact tx_sc hds hsd
      · exact tx_sc hcs hsz) he hA (by decide) (by decide) (by decide) (by decide)
    (fun W1 W' p A1 c1 hp h1 HF => entP_Fin W1 W' p A1 c1 2 2 hp h1 HF)
    (fun W0 W'' q A1 c1 he0 hw hq hb hA' => fFin_no W0 W'' q A1 c1 cs ds hcs hds hsz hsd hno he0 hw hq hb hA')
end Go.Proofs.YtcnlonaighlmbaaGreatDoor
