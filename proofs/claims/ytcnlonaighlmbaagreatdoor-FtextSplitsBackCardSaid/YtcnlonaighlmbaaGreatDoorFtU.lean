/- value.Run, ftext.Call, the law's text: answers of any kind. -/
import Derived.Test.YtcnlonaighlmbaaGreatDoorFtL
import Derived.Test.YtcnlonaighlmbaaGreatDoorFtT
set_option linter.unusedSimpArgs false
set_option linter.unusedVariables false
namespace Go.Proofs.YtcnlonaighlmbaaGreatDoor
open Go.RowKit

/-- A value and no error. -/
def LRes (W : World) (Φ : Vl → List Vl → Prop) (e : Ending) (w' : World) : Prop := ∃ (k : Int) (num den text : ByteArray) (on : Bool) (code rr rc : Int) (A2 : Option Addr) (n2 c2 : Nat) (us : List Vl), e = .returned (.tuple #[.agg #[.int .i64 k, .string num, .string den, .string text, .bool on, .int .i64 code, .int .i64 rr, .int .i64 rc, .slice A2 n2 c2], .int .i64 0]) ∧ Φ ⟨k, num, den, text, on, code, rr, rc, none, 0, 0⟩ us ∧ Reads 9 csV w' (.slice A2 n2 c2) us ∧ (n2 = 0 → A2 = none ∧ c2 = 0) ∧ (∀ b o, A2 = some ⟨b, o, none⟩ → W.heap.size ≤ b) ∧ Below W.heap.size W w'
/-- A value. -/
def VRes (W : World) (Φ : Vl → List Vl → Prop) (e : Ending) (w' : World) : Prop := ∃ (k : Int) (num den text : ByteArray) (on : Bool) (code rr rc : Int) (A2 : Option Addr) (n2 c2 : Nat) (us : List Vl), e = .returned (.agg #[.int .i64 k, .string num, .string den, .string text, .bool on, .int .i64 code, .int .i64 rr, .int .i64 rc, .slice A2 n2 c2]) ∧ Φ ⟨k, num, den, text, on, code, rr, rc, none, 0, 0⟩ us ∧ Reads 9 csV w' (.slice A2 n2 c2) us ∧ (n2 = 0 → A2 = none ∧ c2 = 0) ∧ (∀ b o, A2 = some ⟨b, o, none⟩ → W.heap.size ≤ b) ∧ Below W.heap.size W w'
set_option maxRecDepth 100000 in
set_option maxHeartbeats 8000000 in
theorem run_g (w0 W : World) (b : Nat) (name : ByteArray) (y : EY) (hTS : TS w0 W b tabL) (hf : (tabL.find? fun y => sameT y.1 name) = some y) (A : Option Addr) (n c : Nat) (Φ : Vl → List Vl → Prop) (h1 : y.2.1 ≤ (n : Int)) (h2 : (n : Int) ≤ y.2.2.1)
    (hLI : ∀ W' x p, Below W.heap.size W W' → Blk W' x 81 #[.int .i64 y.2.1, .int .i64 y.2.2.1, .string y.2.2.2.1, .func (.func 105) #[] #[.pointer (some ⟨p, 0, none⟩)]] → FB W' p y.2.2.2.2 → Calls Tryz.prog 46 #[.string y.2.2.2.1, .slice A n c, .func (.func 47) #[] #[.pointer (some ⟨x, 0, none⟩)]] W' (LRes W' Φ)) :
    Calls Tryz.prog 29 #[.map (some b), .string name, .slice A n c] W (LRes W Φ) := by
  obtain ⟨p, hlk, hp⟩ := hTS.look name y hf
  obtain ⟨p', hlk', -⟩ := (hTS.step (below_al W (.cells #[.int .i64 0, .string ⟨#[]⟩, .string ⟨#[]⟩, .string ⟨#[]⟩, .bool false, .int .i64 0, .int .i64 0, .int .i64 0, .slice none 0 0] 26))).look name y hf
  obtain rfl : p = p' := by
    obtain ⟨LV, g1, g2⟩ := hTS.ex
    obtain ⟨p2, g3, g4⟩ := ents_some name y LV tabL g2 hf
    have e1 := g1.look Tryz.underlying55 Tryz.underlying9 name _ g3
    have e2 := (g1.later (below_al W (.cells #[.int .i64 0, .string ⟨#[]⟩, .string ⟨#[]⟩, .string ⟨#[]⟩, .bool false, .int .i64 0, .int .i64 0, .int .i64 0, .slice none 0 0] 26))).look Tryz.underlying55 Tryz.underlying9 name _ g3
    rw [hlk] at e1
    rw [hlk'] at e2
    simp only [Result.ok.injEq, Value.tuple.injEq, Array.mk.injEq, List.cons.injEq, Value.agg.injEq, Value.func.injEq, Value.pointer.injEq, Option.some.injEq, Addr.mk.injEq, and_true, true_and] at e1 e2
    omega
  have HL0 := Lib.hid (((Loc.start W).alloc' rfl 26 #[.int .i64 0, .string ⟨#[]⟩, .string ⟨#[]⟩, .string ⟨#[]⟩, .bool false, .int .i64 0, .int .i64 0, .int .i64 0, .slice none 0 0]).alloc' (g := W.heap.size + 1) (by simp) 81 #[.int .i64 y.2.1, .int .i64 y.2.2.1, .string y.2.2.2.1, .func (.func 105) #[] #[.pointer (some ⟨p, 0, none⟩)]])
  have HLI0 := Lib.hid (hLI _ (W.heap.size + 1) p HL0.out.bel (HL0.out.blk (g := W.heap.size + 1) (t := 81) (List.mem_cons_self ..)) ((hp.alloc (.cells #[.int .i64 0, .string ⟨#[]⟩, .string ⟨#[]⟩, .string ⟨#[]⟩, .bool false, .int .i64 0, .int .i64 0, .int .i64 0, .slice none 0 0] 26)).alloc (.cells #[.int .i64 y.2.1, .int .i64 y.2.2.1, .string y.2.2.2.1, .func (.func 105) #[] #[.pointer (some ⟨p, 0, none⟩)]] 81)))
  clear hlk hp hLI hTS hf
  obtain ⟨yk, lo, hi, ks, fn⟩ := y
  dsimp only at h1 h2 hlk' HLI0 HL0
  have h1 : ¬ (n : Int) < lo := by omega
  have h2 : ¬ hi < (n : Int) := by omega
  go_enter Tryz.func29, Tryz.ntmps29
  have hmf : ∀ (fn : Fn) (first cap : Array Value) (w : World), (Instr.makeFunc fn first cap).run Tryz.prog w = .ok (.func fn first cap) w := fun _ _ _ _ => rfl
  go_upto_region 99 with (go_at_call 46; (with_reducible refine HLI0.out.mono ?_); rintro e w3 ⟨k, num, den, text, on, code, rr, rc, A2, n2, c2, us, rfl, hP, hr, hz0, hfr, hb⟩; have HP := Lib.hid hP; have HZ0 := Lib.hid hz0; clear hz0; have HRS := Lib.hid hr; have HL1 := Lib.hid (HL0.out.step hb); have HSA := Lib.hid hfr; clear hfr; have HBW := Lib.hid (HL1.out.blk (g := W.heap.size) (t := 26) (cs := #[.int .i64 0, .string ⟨#[]⟩, .string ⟨#[]⟩, .string ⟨#[]⟩, .bool false, .int .i64 0, .int .i64 0, .int .i64 0, .slice none 0 0]) (List.mem_cons_of_mem _ (List.mem_cons_self ..))); obtain ⟨f0, f1, f2, f3, f4, f5, f6, f7, f8⟩ := HBW.out.ninef; obtain ⟨z0, z1, z2, z3, z4, z5, z6, z7, z8⟩ := HBW.out.nine; clear hP hr hb HL0)
  clear f0 f1 f2 f3 f4 f5 f6 f7 f8 z0 z1 z2 z3 z4 z5 z6 z7 z8
  obtain ⟨q0, q1, q2, q3, q4, q5, q6, q7, q8⟩ := (HBW.out.nine_set (.int .i64 k) (.string num) (.string den) (.string text) (.bool on) (.int .i64 code) (.int .i64 rr) (.int .i64 rc) (.slice A2 n2 c2)).1.nine
  have hcn := chg_nine w3 W.heap.size (.int .i64 k) (.string num) (.string den) (.string text) (.bool on) (.int .i64 code) (.int .i64 rr) (.int .i64 rc) (.slice A2 n2 c2)
  have hfr := HSA.out
  have hsz : ((W.alloc (.cells #[.int .i64 0, .string ⟨#[]⟩, .string ⟨#[]⟩, .string ⟨#[]⟩, .bool false, .int .i64 0, .int .i64 0, .int .i64 0, .slice none 0 0] 26)).alloc (.cells #[.int .i64 lo, .int .i64 hi, .string ks, .func (.func 105) #[] #[.pointer (some ⟨p, 0, none⟩)]] 81)).heap.size = W.heap.size + 2 := by simp
  rw [hsz] at hfr
  refine bodyPost_ret (v := .tuple #[.agg #[.int .i64 k, .string num, .string den, .string text, .bool on, .int .i64 code, .int .i64 rr, .int .i64 rc, .slice A2 n2 c2], .int .i64 0]) (by simp [results, Tryz.results29, go_sem, q0, q1, q2, q3, q4, q5, q6, q7, q8]) rfl ⟨k, num, den, text, on, code, rr, rc, A2, n2, c2, us, rfl, HP.out, reads_same2 HRS.out hcn.size (fun b o e hb => hcn.block b hb (by
    have := hfr b o e
    rw [List.mem_singleton]
    omega)), HZ0.out, fun b o e => by have := hfr b o e; omega, HL1.out.bel.trans (hcn.below HL1.out.bel.size fun x hx => by rw [List.mem_singleton.1 hx]; exact Nat.le_refl _)⟩
set_option maxRecDepth 100000 in
set_option maxHeartbeats 8000000 in
theorem call_g (W : World) (name : ByteArray) (y : EY) (hf : (tabL.find? fun y => sameT y.1 name) = some y) (A : Option Addr) (n c : Nat) (Φ : Vl → List Vl → Prop) (h1 : y.2.1 ≤ (n : Int)) (h2 : (n : Int) ≤ y.2.2.1)
    (hLI : ∀ W' x p, Below W.heap.size W W' → Blk W' x 81 #[.int .i64 y.2.1, .int .i64 y.2.2.1, .string y.2.2.2.1, .func (.func 105) #[] #[.pointer (some ⟨p, 0, none⟩)]] → FB W' p y.2.2.2.2 → Calls Tryz.prog 46 #[.string y.2.2.2.1, .slice A n c, .func (.func 47) #[] #[.pointer (some ⟨x, 0, none⟩)]] W' (LRes W' Φ)) :
    Calls Tryz.prog 19 #[.string name, .slice A n c] W (LRes W Φ) := by
  have HL0 := Lib.hid ((Loc.start W).alloc' rfl 26 #[.int .i64 0, .string ⟨#[]⟩, .string ⟨#[]⟩, .string ⟨#[]⟩, .bool false, .int .i64 0, .int .i64 0, .int .i64 0, .slice none 0 0])
  have HRU := Lib.hid fun w0 W1 b (hb : Below W.heap.size W W1) (hTS : TS w0 W1 b tabL) => run_g w0 W1 b name y hTS hf A n c Φ h1 h2 (fun W' x p hW => hLI W' x p (hb.trans (hW.mono hb.size)))
  clear hLI hf h1 h2
  go_enter Tryz.func19, Tryz.ntmps19
  go_upto_region 99 with (first
    | (go_at_call 30; (with_reducible refine (table_any _).mono ?_); rintro e w2 ⟨b, rfl, hts⟩; have HL1 := Lib.hid (HL0.out.step hts.bel); have HTS := Lib.hid hts; clear hts HL0)
    | (go_at_call 29; (with_reducible refine (HRU.out _ _ _ HL1.out.bel HTS.out).mono ?_); rintro e w3 ⟨k, num, den, text, on, code, rr, rc, A2, n2, c2, us, rfl, hP, hr, hz0, hfr, hb⟩; have HP := Lib.hid hP; have HZ0 := Lib.hid hz0; clear hz0; have HRS := Lib.hid hr; have HLT := Lib.hid (HL1.out.lt (g := W.heap.size) (t := 26) (List.mem_cons_self ..)); have HL2 := Lib.hid (HL1.out.step hb); have HSA := Lib.hid hfr; have HBW := Lib.hid (HL2.out.blk (g := W.heap.size) (t := 26) (cs := #[.int .i64 0, .string ⟨#[]⟩, .string ⟨#[]⟩, .string ⟨#[]⟩, .bool false, .int .i64 0, .int .i64 0, .int .i64 0, .slice none 0 0]) (List.mem_cons_self ..)); obtain ⟨f0, f1, f2, f3, f4, f5, f6, f7, f8⟩ := HBW.out.ninef; obtain ⟨z0, z1, z2, z3, z4, z5, z6, z7, z8⟩ := HBW.out.nine; clear hP hr hb HL1 hfr))
  clear f0 f1 f2 f3 f4 f5 f6 f7 f8 z0 z1 z2 z3 z4 z5 z6 z7 z8
  obtain ⟨q0, q1, q2, q3, q4, q5, q6, q7, q8⟩ := (HBW.out.nine_set (.int .i64 k) (.string num) (.string den) (.string text) (.bool on) (.int .i64 code) (.int .i64 rr) (.int .i64 rc) (.slice A2 n2 c2)).1.nine
  have hcn := chg_nine w3 W.heap.size (.int .i64 k) (.string num) (.string den) (.string text) (.bool on) (.int .i64 code) (.int .i64 rr) (.int .i64 rc) (.slice A2 n2 c2)
  have hfr := HSA.out
  have hlt := HLT.out
  refine bodyPost_ret (v := .tuple #[.agg #[.int .i64 k, .string num, .string den, .string text, .bool on, .int .i64 code, .int .i64 rr, .int .i64 rc, .slice A2 n2 c2], .int .i64 0]) (by simp [results, Tryz.results19, go_sem, q0, q1, q2, q3, q4, q5, q6, q7, q8]) rfl ⟨k, num, den, text, on, code, rr, rc, A2, n2, c2, us, rfl, HP.out, reads_same2 HRS.out hcn.size (fun b o e hb => hcn.block b hb (by
    have := hfr b o e
    rw [List.mem_singleton]
    omega)), HZ0.out, fun b o e => by have := hfr b o e; omega, HL2.out.bel.trans (hcn.below HL2.out.bel.size fun x hx => by rw [List.mem_singleton.1 hx]; exact Nat.le_refl _)⟩
set_option maxRecDepth 100000 in
set_option maxHeartbeats 8000000 in
theorem text_gg (W : World) (name : ByteArray) (y : EY) (hf : (tabL.find? fun y => sameT y.1 name) = some y) (A : Option Addr) (n c : Nat) (Φ : Vl → List Vl → Prop) (h1 : y.2.1 ≤ (n : Int)) (h2 : (n : Int) ≤ y.2.2.1)
    (hLI : ∀ W' x p, Below W.heap.size W W' → Blk W' x 81 #[.int .i64 y.2.1, .int .i64 y.2.2.1, .string y.2.2.2.1, .func (.func 105) #[] #[.pointer (some ⟨p, 0, none⟩)]] → FB W' p y.2.2.2.2 → Calls Tryz.prog 46 #[.string y.2.2.2.1, .slice A n c, .func (.func 47) #[] #[.pointer (some ⟨x, 0, none⟩)]] W' (LRes W' Φ)) :
    Calls Tryz.prog 8 #[.string name, .slice A n c] W (VRes W Φ) := by
  have HL0 := Lib.hid ((Loc.start W).alloc' rfl 26 #[.int .i64 0, .string ⟨#[]⟩, .string ⟨#[]⟩, .string ⟨#[]⟩, .bool false, .int .i64 0, .int .i64 0, .int .i64 0, .slice none 0 0])
  have HCA := Lib.hid (call_g (W.alloc (.cells #[.int .i64 0, .string ⟨#[]⟩, .string ⟨#[]⟩, .string ⟨#[]⟩, .bool false, .int .i64 0, .int .i64 0, .int .i64 0, .slice none 0 0] 26)) name y hf A n c Φ h1 h2 (fun W' x p hW => hLI W' x p (HL0.out.step hW).bel))
  clear hLI hf h1 h2
  go_enter Tryz.func8, Tryz.ntmps8
  go_upto_region 2 with (go_at_call 19; (with_reducible refine HCA.out.mono ?_); rintro e w3 ⟨k, num, den, text, on, code, rr, rc, A2, n2, c2, us, rfl, hP, hr, hz0, hfr, hb⟩; have HP := Lib.hid hP; have HZ0 := Lib.hid hz0; clear hz0; have HRS := Lib.hid hr; have HL2 := Lib.hid (HL0.out.step hb); have HSA := Lib.hid hfr; clear hP hr hb HL0 hfr)
  have HRS4 := Lib.hid (HRS.out.below (below_al w3 (.cells #[.int .i64 k, .string num, .string den, .string text, .bool on, .int .i64 code, .int .i64 rr, .int .i64 rc, .slice A2 n2 c2] 26)))
  obtain ⟨X, hX⟩ : ∃ X, X = w3.heap.size := ⟨_, rfl⟩
  have HL3 := Lib.hid (HL2.out.alloc' hX.symm 26 #[.int .i64 k, .string num, .string den, .string text, .bool on, .int .i64 code, .int .i64 rr, .int .i64 rc, .slice A2 n2 c2])
  have hsz : (W.alloc (.cells #[.int .i64 0, .string ⟨#[]⟩, .string ⟨#[]⟩, .string ⟨#[]⟩, .bool false, .int .i64 0, .int .i64 0, .int .i64 0, .slice none 0 0] 26)).heap.size = W.heap.size + 1 := by simp
  have hfr := HSA.out
  rw [hsz] at hfr
  have HFR := Lib.hid hfr
  clear HRS HL2 hsz HSA hfr HCA
  rw [← hX]
  revert HRS4 HL3
  generalize w3.alloc (.cells #[.int .i64 k, .string num, .string den, .string text, .bool on, .int .i64 code, .int .i64 rr, .int .i64 rc, .slice A2 n2 c2] 26) = w4
  intro HRS4 HL3
  clear hX
  obtain ⟨k0, k1, k2, k3, k4, k5, k6, k7, k8⟩ := (HL3.out.blk (g := X) (t := 26) (List.mem_cons_self ..)).nine
  have HBW := Lib.hid (HL3.out.blk (g := W.heap.size) (t := 26) (cs := #[.int .i64 0, .string ⟨#[]⟩, .string ⟨#[]⟩, .string ⟨#[]⟩, .bool false, .int .i64 0, .int .i64 0, .int .i64 0, .slice none 0 0]) (List.mem_cons_of_mem _ (List.mem_cons_self ..)))
  obtain ⟨f0, f1, f2, f3, f4, f5, f6, f7, f8⟩ := HBW.out.ninef
  obtain ⟨z0, z1, z2, z3, z4, z5, z6, z7, z8⟩ := HBW.out.nine
  go_upto_region 99 with fail
  clear k0 k1 k2 k3 k4 k5 k6 k7 k8
  clear f0 f1 f2 f3 f4 f5 f6 f7 f8 z0 z1 z2 z3 z4 z5 z6 z7 z8
  obtain ⟨q0, q1, q2, q3, q4, q5, q6, q7, q8⟩ := (HBW.out.nine_set (.int .i64 k) (.string num) (.string den) (.string text) (.bool on) (.int .i64 code) (.int .i64 rr) (.int .i64 rc) (.slice A2 n2 c2)).1.nine
  have hcn := chg_nine w4 W.heap.size (.int .i64 k) (.string num) (.string den) (.string text) (.bool on) (.int .i64 code) (.int .i64 rr) (.int .i64 rc) (.slice A2 n2 c2)
  have hfr := HFR.out
  refine bodyPost_ret (v := .agg #[.int .i64 k, .string num, .string den, .string text, .bool on, .int .i64 code, .int .i64 rr, .int .i64 rc, .slice A2 n2 c2]) (by simp [results, Tryz.results8, go_sem, q0, q1, q2, q3, q4, q5, q6, q7, q8]) rfl ⟨k, num, den, text, on, code, rr, rc, A2, n2, c2, us, rfl, HP.out, reads_same2 HRS4.out hcn.size (fun b o e hb => hcn.block b hb (by
    have := hfr b o e
    rw [List.mem_singleton]
    omega)), HZ0.out, fun b o e => by have := hfr b o e; omega, HL3.out.bel.trans (hcn.below HL3.out.bel.size fun x hx => by rw [List.mem_singleton.1 hx]; exact Nat.le_refl _)⟩
theorem tx_n (W : World) (name : ByteArray) (y : EY) (F : Nat) (hFV : y.2.2.2.2 = (F, none)) (hf : (tabL.find? fun y => sameT y.1 name) = some y) (A : Option Addr) (n c : Nat) (Φ : Vl → List Vl → Prop) (avs : List Vl) (hΦ : ∀ h us, Φ h us → HdOk h us) (he : VEnv W) (hA : Reads 9 csV W (.slice A n c) avs) (hn1 : 1 ≤ n) (hn2 : n ≤ 4) (h1 : y.2.1 ≤ (n : Int)) (h2 : (n : Int) ≤ y.2.2.1) (hk0 : y.2.2.2.1.toList.isEmpty = false)
    (hTR : ∀ W', Calls Tryz.prog 102 #[.string y.2.2.2.1, .string ⟨#[115, 97]⟩] W' fun e w' => e = .returned (.string ⟨#[]⟩) ∧ Below W'.heap.size W' w')
    (hLT : ∀ i, i < n → ∃ l : Int, (∀ W', Calls Tryz.prog 103 #[.string y.2.2.2.1, .int .i64 (i : Int)] W' fun e w' => e = .returned (.int .u8 l) ∧ W' = w') ∧ (l = 115 → ¬ avs[i]!.k = 5))
    (hCK : ∀ i, i < n → ∀ W', Below W.heap.size W W' → Calls Tryz.prog 28 #[avs[i]!.v] W' fun e w' => e = .returned (.int .i64 0) ∧ Below W'.heap.size W' w')
    (hVD : ∀ (k : Int) (num den text : ByteArray) (on : Bool) (code rr rc : Int) (A2 : Option Addr) (n2 c2 : Nat) (us : List Vl) (W' : World), VEnv W' → Φ ⟨k, num, den, text, on, code, rr, rc, none, 0, 0⟩ us → Reads 9 csV W' (.slice A2 n2 c2) us → Calls Tryz.prog 18 #[.agg #[.int .i64 k, .string num, .string den, .string text, .bool on, .int .i64 code, .int .i64 rr, .int .i64 rc, .slice A2 n2 c2]] W' fun e w' => e = .returned (.agg #[.int .i64 k, .string num, .string den, .string text, .bool on, .int .i64 code, .int .i64 rr, .int .i64 rc, .slice A2 n2 c2]) ∧ Below W'.heap.size W' w')
    (hE : ∀ (B0 W1 W' : World) (p : Nat) (A1 : Option Addr) (c1 : Nat), Blk W' p 89 #[.func (.func F) #[] #[]] → B0.heap.size ≤ W1.heap.size → Below W1.heap.size W1 W' → (∀ W'' q, Below W1.heap.size W1 W'' → W1.heap.size ≤ q → Blk W'' q 120 #[.slice A1 n c1, .int .i64 0] → Calls Tryz.prog F #[.pointer (some ⟨q, 0, none⟩)] W'' (ResG B0 W'' [q] Φ)) → Calls Tryz.prog 105 #[.slice A1 n c1, .pointer (some ⟨p, 0, none⟩)] W' (ResG B0 W' [] Φ))
    (hF : ∀ (B0 W0 W'' : World) (q : Nat) (A1 : Option Addr) (c1 : Nat), Below W.heap.size W B0 → Below B0.heap.size B0 W0 → Below W0.heap.size W0 W'' → W0.heap.size ≤ q → Blk W'' q 120 #[.slice A1 n c1, .int .i64 0] → Reads 9 csV W0 (.slice A1 n c1) avs → Calls Tryz.prog F #[.pointer (some ⟨q, 0, none⟩)] W'' (ResG B0 W'' [q] Φ)) :
    Calls Tryz.prog 8 #[.string name, .slice A n c] W (VRes W Φ) :=
  text_gg W name y hf A n c Φ h1 h2 fun W' x p hW hx hp0 =>
    have hp : Blk W' p 89 #[.func (.func F) #[] #[]] := by rw [hFV] at hp0; exact hp0
    lift_g W' y.2.2.2.1 A n c x avs Φ hΦ (hA.below hW) hn1 (by omega) hk0 hTR hLT (fun i hi W2 hb => hCK i hi W2 (hW.trans (hb.mono hW.size)))
      (fun W1 A1 c1 hW1 hA1 => run1_g W' W1 x p y.2.1 y.2.2.1 y.2.2.2.1 A1 n c1 Φ hΦ (hx.later hW1) hW1.size fun W2 hW2 => hE W' W1 W2 p A1 c1 ((hp.later hW1).later hW2) hW1.size hW2 fun W3 q h3 hq hb => hF W' W1 W3 q A1 c1 hW hW1 h3 hq hb hA1)
      (fun k num den text on code rr rc A2 n2 c2 us W2 hb hP hr => hVD k num den text on code rr rc A2 n2 c2 us W2 (he.below (hW.trans (hb.mono hW.size))) hP hr)
/-- The function stops. -/
theorem tx_p (W : World) (name : ByteArray) (y : EY) (F : Nat) (hFV : y.2.2.2.2 = (F, none)) (hf : (tabL.find? fun y => sameT y.1 name) = some y) (A : Option Addr) (n c : Nat) (Φ : Vl → List Vl → Prop) (avs : List Vl) (hΦ : ∀ h us, Φ h us → HdOk h us) (he : VEnv W) (hA : Reads 9 csV W (.slice A n c) avs) (hn1 : 1 ≤ n) (hn2 : n ≤ 4) (h1 : y.2.1 ≤ (n : Int)) (h2 : (n : Int) ≤ y.2.2.1) (hk0 : y.2.2.2.1.toList.isEmpty = false)
    (hTR : ∀ W', Calls Tryz.prog 102 #[.string y.2.2.2.1, .string ⟨#[115, 97]⟩] W' fun e w' => e = .returned (.string ⟨#[]⟩) ∧ Below W'.heap.size W' w')
    (hLT : ∀ i, i < n → ∃ l : Int, (∀ W', Calls Tryz.prog 103 #[.string y.2.2.2.1, .int .i64 (i : Int)] W' fun e w' => e = .returned (.int .u8 l) ∧ W' = w') ∧ (l = 115 → ¬ avs[i]!.k = 5))
    (hCK : ∀ i, i < n → ∀ W', Below W.heap.size W W' → Calls Tryz.prog 28 #[avs[i]!.v] W' fun e w' => e = .returned (.int .i64 0) ∧ Below W'.heap.size W' w')
    (hVD : ∀ (k : Int) (num den text : ByteArray) (on : Bool) (code rr rc : Int) (A2 : Option Addr) (n2 c2 : Nat) (us : List Vl) (W' : World), VEnv W' → Φ ⟨k, num, den, text, on, code, rr, rc, none, 0, 0⟩ us → Reads 9 csV W' (.slice A2 n2 c2) us → Calls Tryz.prog 18 #[.agg #[.int .i64 k, .string num, .string den, .string text, .bool on, .int .i64 code, .int .i64 rr, .int .i64 rc, .slice A2 n2 c2]] W' fun e w' => e = .returned (.agg #[.int .i64 k, .string num, .string den, .string text, .bool on, .int .i64 code, .int .i64 rr, .int .i64 rc, .slice A2 n2 c2]) ∧ Below W'.heap.size W' w') (j : Nat) (j1 : 1 ≤ j) (j8 : j ≤ 8) (hj : Φ (fltU (j : Int)) [])
    (hE : ∀ (W1 W' : World) (p : Nat) (A1 : Option Addr) (c1 : Nat), Blk W' p 89 #[.func (.func F) #[] #[]] → Below W1.heap.size W1 W' → (∀ W'' q, Below W1.heap.size W1 W'' → W1.heap.size ≤ q → Blk W'' q 120 #[.slice A1 n c1, .int .i64 0] → Calls Tryz.prog F #[.pointer (some ⟨q, 0, none⟩)] W'' (PanP j W'' [q])) → Calls Tryz.prog 105 #[.slice A1 n c1, .pointer (some ⟨p, 0, none⟩)] W' (PanP j W' []))
    (hF : ∀ (B0 W0 W'' : World) (q : Nat) (A1 : Option Addr) (c1 : Nat), Below W.heap.size W B0 → Below B0.heap.size B0 W0 → Below W0.heap.size W0 W'' → W0.heap.size ≤ q → Blk W'' q 120 #[.slice A1 n c1, .int .i64 0] → Reads 9 csV W0 (.slice A1 n c1) avs → Calls Tryz.prog F #[.pointer (some ⟨q, 0, none⟩)] W'' (PanP j W'' [q])) :
    Calls Tryz.prog 8 #[.string name, .slice A n c] W (VRes W Φ) :=
  text_gg W name y hf A n c Φ h1 h2 fun W' x p hW hx hp0 =>
    have hp : Blk W' p 89 #[.func (.func F) #[] #[]] := by rw [hFV] at hp0; exact hp0
    lift_g W' y.2.2.2.1 A n c x avs Φ hΦ (hA.below hW) hn1 (by omega) hk0 hTR hLT (fun i hi W2 hb => hCK i hi W2 (hW.trans (hb.mono hW.size)))
      (fun W1 A1 c1 hW1 hA1 => run1_p W' W1 x p j y.2.1 y.2.2.1 y.2.2.2.1 A1 n c1 Φ hj (he.below (below_tr hW hW1)) j1 j8 (hx.later hW1) fun W2 hW2 => hE W1 W2 p A1 c1 ((hp.later hW1).later hW2) hW2 fun W3 q h3 hq hb => hF W' W1 W3 q A1 c1 hW hW1 h3 hq hb hA1)
      (fun k num den text on code rr rc A2 n2 c2 us W2 hb hP hr => hVD k num den text on code rr rc A2 n2 c2 us W2 (he.below (hW.trans (hb.mono hW.size))) hP hr)
end Go.Proofs.YtcnlonaighlmbaaGreatDoor
