/- value.Run's closure: answers of any kind; where the function stops, the error value. -/
import Derived.Test.YtcnlonaighlmbaaGreatDoorFtG
import Derived.Defers
import Derived.Recover
set_option linter.unusedSimpArgs false
set_option linter.unusedVariables false
namespace Go.Proofs.YtcnlonaighlmbaaGreatDoor
open Go.RowKit

theorem rec_idle (p : Addr) (w : World) : CallsD Tryz.prog 48 #[.pointer (some p)] .returning w fun e u' w' => e = .returned (.tuple #[]) ∧ u' = .returning ∧ w' = w := by
  refine callsD_of_wpS Tryz.func48 rfl fun c₀ cs hu => ?_
  apply wpS_seq
  apply wpS_region
  simp [wpOpsS, go_sem, recoverD, hu, Tryz.ntmps48, Exit.thenS]
  refine wpS_of_wp ?_
  rw [show (#[Value.pointer (some p)] ++ (Array.replicate 11 undef).setIfInBounds 3 Value.nilIface : Array Value) = #[.pointer (some p), undef, undef, undef, .nilIface, undef, undef, undef, undef, undef, undef, undef] from rfl]
  go_wp2_with fail
  cases c₀
  simp_all [bodyPostS, results, Tryz.results48]
set_option maxRecDepth 100000 in
set_option maxHeartbeats 4000000 in
theorem run1_g (B0 W : World) (x p : Nat) (l m : Int) (ks : ByteArray) (A : Option Addr) (n c : Nat) (Φ : Vl → List Vl → Prop) (hΦ : ∀ h us, Φ h us → HdOk h us) (hx : Blk W x 81 #[.int .i64 l, .int .i64 m, .string ks, .func (.func 105) #[] #[.pointer (some ⟨p, 0, none⟩)]]) (hB : B0.heap.size ≤ W.heap.size)
    (HE : ∀ W', Below W.heap.size W W' → Calls Tryz.prog 105 #[.slice A n c, .pointer (some ⟨p, 0, none⟩)] W' (ResG B0 W' [] Φ)) :
    Calls Tryz.prog 47 #[.slice A n c, .pointer (some ⟨x, 0, none⟩)] W (ResG B0 W [] Φ) := by
  have hmf : ∀ (fn : Fn) (first cap : Array Value) (w : World), (Instr.makeFunc fn first cap).run Tryz.prog w = .ok (.func fn first cap) w := fun _ _ _ _ => rfl
  have HL0 := Lib.hid ((Loc.start W).alloc' rfl 26 #[.int .i64 0, .string ⟨#[]⟩, .string ⟨#[]⟩, .string ⟨#[]⟩, .bool false, .int .i64 0, .int .i64 0, .int .i64 0, .slice none 0 0])
  have x3 := (hx.alloc (.cells #[.int .i64 0, .string ⟨#[]⟩, .string ⟨#[]⟩, .string ⟨#[]⟩, .bool false, .int .i64 0, .int .i64 0, .int .i64 0, .slice none 0 0] 26)).cell 3
  simp only [List.getElem?_toArray, List.getElem?_cons_succ, List.getElem?_cons_zero] at x3
  have HE0 := Lib.hid (HE _ HL0.out.bel)
  have HB := Lib.hid hB
  have HOK := Lib.hid hΦ
  clear hx HE hB hΦ
  go_enter_defers Tryz.func47, Tryz.ntmps47
  go_upto_region 3 with (go_at_call 105; (with_reducible refine HE0.out.mono ?_); rintro e w2 ⟨k, num, den, text, on, code, rr, rc, A2, n2, c2, us, rfl, hP, hr, hf, hb⟩; have HP := Lib.hid hP; have HRS := Lib.hid hr; have HFR := Lib.hid hf; have HB2 := Lib.hid hb; have HBW := Lib.hid (hb.blk (HL0.out.blk (g := W.heap.size) (t := 26) (List.mem_cons_self ..)) (by simp) (by simp)); clear hP hr hf hb x3; obtain ⟨f0, f1, f2, f3, f4, f5, f6, f7, f8⟩ := HBW.out.ninef; obtain ⟨z0, z1, z2, z3, z4, z5, z6, z7, z8⟩ := HBW.out.nine)
  clear f0 f1 f2 f3 f4 f5 f6 f7 f8 z0 z1 z2 z3 z4 z5 z6 z7 z8
  have HB3 := Lib.hid (HBW.out.nine_set (.int .i64 k) (.string num) (.string den) (.string text) (.bool on) (.int .i64 code) (.int .i64 rr) (.int .i64 rc) (.slice A2 n2 c2)).1
  have hcn := chg_nine w2 W.heap.size (.int .i64 k) (.string num) (.string den) (.string text) (.bool on) (.int .i64 code) (.int .i64 rr) (.int .i64 rc) (.slice A2 n2 c2)
  have hsz := HB2.out.size
  have hsz2 : (W.alloc (.cells #[.int .i64 0, .string ⟨#[]⟩, .string ⟨#[]⟩, .string ⟨#[]⟩, .bool false, .int .i64 0, .int .i64 0, .int .i64 0, .slice none 0 0] 26)).heap.size = W.heap.size + 1 := by simp
  rw [hsz2] at hsz
  have hfr := HFR.out
  unfold Fresh at hfr
  rw [hsz2] at hfr
  have hB := HB.out
  have hbn : ∀ b o, A2 = some ⟨b, o, none⟩ → b ∉ [W.heap.size] := fun b o e => by
    have := hfr b o e
    rw [List.mem_singleton]
    omega
  have h12 : Chg W.heap.size [] W w2 := (Chg.of HL0.out.bel []).trans (HB2.out.mono (by rw [hsz2]; omega) fun x hx => by cases hx)
  have HC3 := Lib.hid (h12.trans (hcn.mono (by omega) fun x hx => .inr (by rw [List.mem_singleton.1 hx]; exact Nat.le_refl _)))
  have HRS3 := Lib.hid (reads_same2 HRS.out hcn.size (fun b o e hb => hcn.block b hb (hbn b o e)))
  have HBN := Lib.hid hbn
  have HFF := Lib.hid (show Fresh B0.heap.size W.heap.size A2 from fun b o e => by have := hfr b o e; omega)
  have HS3 := Lib.hid (show W.heap.size ≤ (((((((((w2.setCell ⟨W.heap.size, 0, none⟩ (.int .i64 k)).setCell ⟨W.heap.size, 1, none⟩ (.string num)).setCell ⟨W.heap.size, 2, none⟩ (.string den)).setCell ⟨W.heap.size, 3, none⟩ (.string text)).setCell ⟨W.heap.size, 4, none⟩ (.bool on)).setCell ⟨W.heap.size, 5, none⟩ (.int .i64 code)).setCell ⟨W.heap.size, 6, none⟩ (.int .i64 rr)).setCell ⟨W.heap.size, 7, none⟩ (.int .i64 rc)).setCell ⟨W.heap.size, 8, none⟩ (.slice A2 n2 c2)).heap.size from Nat.le_trans (by omega) hcn.size)
  clear hcn hsz hsz2 hfr hB hbn h12 HRS HFR HB2 HBW HL0 HE0 HB
  revert HB3 HC3 HRS3 HS3
  generalize ((((((((w2.setCell ⟨W.heap.size, 0, none⟩ (.int .i64 k)).setCell ⟨W.heap.size, 1, none⟩ (.string num)).setCell ⟨W.heap.size, 2, none⟩ (.string den)).setCell ⟨W.heap.size, 3, none⟩ (.string text)).setCell ⟨W.heap.size, 4, none⟩ (.bool on)).setCell ⟨W.heap.size, 5, none⟩ (.int .i64 code)).setCell ⟨W.heap.size, 6, none⟩ (.int .i64 rr)).setCell ⟨W.heap.size, 7, none⟩ (.int .i64 rc)).setCell ⟨W.heap.size, 8, none⟩ (.slice A2 n2 c2) = W3
  intro HB3 HC3 HRS3 HS3
  obtain ⟨k0, k1, k2, k3, k4, k5, k6, k7, k8⟩ := HB3.out.nine
  have mixed : Tryz.prog.follows Departure.mixedOrders = true := by kernel_rfl
  rcases HOK.out _ _ HP.out with ⟨h00, -⟩ | ⟨h01, h02, h03, h04, -⟩
  all_goals
    first
      | (have h0 : rr = 0 := h00
         have r1 : ¬ (0 : Int) < rr := by omega
         clear h0 h00)
      | (have h1 : 1 ≤ rr := h01
         have h2 : rr ≤ 100 := h02
         have h3 : 0 ≤ rc := h03
         have h4 : rc ≤ 1000 := h04
         clear h01 h02 h03 h04
         have r1 : (0 : Int) < rr := by omega
         have r0 : ¬ rr = 0 := by omega
         obtain ⟨dd, hdd, d5⟩ : ∃ dd : Int, IntKind.i64.wrap ((100000 : Int).tdiv rr) = dd ∧ ¬ dd < rc := by
           have e2 : (100000 : Int).tdiv rr = 100000 / rr := Int.tdiv_eq_ediv_of_nonneg (by decide)
           have e3 : (1000 : Int) ≤ 100000 / rr := by
             rw [Int.le_ediv_iff_mul_le (by omega)]
             omega
           have e4 : 100000 / rr ≤ 100000 := Int.ediv_le_self _ (by decide)
           exact ⟨_, rfl, by rw [e2, IntWalk.i64_in _ (by omega)]; omega⟩)
    go_quiet (fail)
    go_upto_region 5 with fail
    have HB4 := Lib.hid (HB3.out.drewN nq)
    clear k0 k1 k2 k3 k4 k5 k6 k7 k8
    obtain ⟨f0, f1, f2, f3, f4, f5, f6, f7, f8⟩ := HB4.out.ninef
    obtain ⟨z0, z1, z2, z3, z4, z5, z6, z7, z8⟩ := HB4.out.nine
    go_upto_region 99 with fail
    clear f0 f1 f2 f3 f4 f5 f6 f7 f8 z0 z1 z2 z3 z4 z5 z6 z7 z8
    obtain ⟨q0, q1, q2, q3, q4, q5, q6, q7, q8⟩ := (HB4.out.nine_set (.int .i64 k) (.string num) (.string den) (.string text) (.bool on) (.int .i64 code) (.int .i64 rr) (.int .i64 rc) (.slice A2 n2 c2)).1.nine
    have hcn := chg_nine (W3.drewN nq) W.heap.size (.int .i64 k) (.string num) (.string den) (.string text) (.bool on) (.int .i64 code) (.int .i64 rr) (.int .i64 rc) (.slice A2 n2 c2)
    have hs3 := HS3.out
    refine leaves_cons (f := 48) (args := #[.pointer (some ⟨W.heap.size, 0, none⟩)]) (by simp) (by simp [go_sem]) ?_
    refine (rec_idle _ _).mono ?_
    rintro e u' w'' ⟨rfl, rfl, rfl⟩
    have hr4 : Reads 9 csV (W3.drewN nq) (.slice A2 n2 c2) us := reads_same2 HRS3.out (Nat.le_refl _) (fun _ _ _ _ => rfl)
    have hr5 := reads_same2 hr4 hcn.size (fun b o e hb => hcn.block b hb (HBN.out b o e))
    have hc4 : Chg W.heap.size [] W (W3.drewN nq) := HC3.out.drewN nq
    have hc5 := hc4.trans (hcn.mono hs3 fun x hx => .inr (by rw [List.mem_singleton.1 hx]; exact Nat.le_refl _))
    have hres : ResG B0 W [] Φ (.returned (.agg #[.int .i64 k, .string num, .string den, .string text, .bool on, .int .i64 code, .int .i64 rr, .int .i64 rc, .slice A2 n2 c2])) ((((((((((W3.drewN nq).setCell ⟨W.heap.size, 0, none⟩ (.int .i64 k)).setCell ⟨W.heap.size, 1, none⟩ (.string num)).setCell ⟨W.heap.size, 2, none⟩ (.string den)).setCell ⟨W.heap.size, 3, none⟩ (.string text)).setCell ⟨W.heap.size, 4, none⟩ (.bool on)).setCell ⟨W.heap.size, 5, none⟩ (.int .i64 code)).setCell ⟨W.heap.size, 6, none⟩ (.int .i64 rr)).setCell ⟨W.heap.size, 7, none⟩ (.int .i64 rc)).setCell ⟨W.heap.size, 8, none⟩ (.slice A2 n2 c2)) := ⟨k, num, den, text, on, code, rr, rc, A2, n2, c2, us, rfl, HP.out, hr5, HFF.out, hc5⟩
    exact ⟨.agg #[.int .i64 k, .string num, .string den, .string text, .bool on, .int .i64 code, .int .i64 rr, .int .i64 rc, .slice A2 n2 c2], by simp [settle, results, Tryz.results47, go_sem, q0, q1, q2, q3, q4, q5, q6, q7, q8], hres⟩
set_option maxRecDepth 100000 in
set_option maxHeartbeats 4000000 in
/-- The deferred call, where a stop is recovered. -/
theorem rec_stop (g j : Nat) (w : World) (he : VEnv w) (j1 : 1 ≤ j) (j8 : j ≤ 8) (hg : Blk w g 26 #[.int .i64 0, .string ⟨#[]⟩, .string ⟨#[]⟩, .string ⟨#[]⟩, .bool false, .int .i64 0, .int .i64 0, .int .i64 0, .slice none 0 0]) : CallsD Tryz.prog 48 #[.pointer (some ⟨g, 0, none⟩)] (.panicking [{ v := .iface 84 (.int .i64 (j : Int)), recovered := false }]) w fun e u' w' => e = .returned (.tuple #[]) ∧ u' = .panicking [{ v := .iface 84 (.int .i64 (j : Int)), recovered := true }] ∧ Blk w' g 26 (fltU (j : Int)).cs ∧ Chg w.heap.size [g] w w' := by
  have HFA := Lib.hid (fault_t j w he j1 j8)
  have HBG := Lib.hid hg
  clear he hg
  have hta : ∀ (T : TypeId) (W : World), (Instr.typeAssert (.iface 84 (.int .i64 (j : Int))) T 84 true).run Tryz.prog W = .ok (.tuple #[.int .i64 (j : Int), .bool true]) W := fun _ _ => by kernel_rfl
  refine callsD_of_wpS Tryz.func48 rfl fun c₀ cs hu => ?_
  apply wpS_seq
  apply wpS_region
  simp [wpOpsS, go_sem, recoverD, hu, Tryz.ntmps48, Exit.thenS]
  refine wpS_of_wp ?_
  rw [show (#[Value.pointer (some ⟨g, 0, none⟩)] ++ (Array.replicate 11 undef).setIfInBounds 3 (Value.iface 84 (Value.int .i64 (j : Int))) : Array Value) = #[.pointer (some ⟨g, 0, none⟩), undef, undef, undef, .iface 84 (.int .i64 (j : Int)), undef, undef, undef, undef, undef, undef, undef] from rfl]
  go_wp2_with (go_at_call 49; (with_reducible refine HFA.out.mono ?_); rintro e w1 ⟨rfl, hb⟩; have HB1 := Lib.hid (HBG.out.later hb); have HC1 := Lib.hid hb; clear hb; obtain ⟨f0, f1, f2, f3, f4, f5, f6, f7, f8⟩ := HB1.out.ninef; obtain ⟨z0, z1, z2, z3, z4, z5, z6, z7, z8⟩ := HB1.out.nine)
  clear f0 f1 f2 f3 f4 f5 f6 f7 f8 z0 z1 z2 z3 z4 z5 z6 z7 z8
  have hset := (HB1.out.nine_set (.int .i64 4) (.string ⟨#[]⟩) (.string ⟨#[]⟩) (.string ⟨#[]⟩) (.bool false) (.int .i64 (j : Int)) (.int .i64 0) (.int .i64 0) (.slice none 0 0)).1
  have hcn := chg_nine w1 g (.int .i64 4) (.string ⟨#[]⟩) (.string ⟨#[]⟩) (.string ⟨#[]⟩) (.bool false) (.int .i64 (j : Int)) (.int .i64 0) (.int .i64 0) (.slice none 0 0)
  have hch := (Chg.of HC1.out [g]).trans (hcn.mono HC1.out.size (fun x hx => .inl hx))
  simp [bodyPostS, results, Tryz.results48]
  exact ⟨hset, hch⟩
set_option maxRecDepth 100000 in
set_option maxHeartbeats 4000000 in
theorem run1_p (B0 W : World) (x p j : Nat) (l m : Int) (ks : ByteArray) (A : Option Addr) (n c : Nat) (Φ : Vl → List Vl → Prop) (hΦ : Φ (fltU (j : Int)) []) (he : VEnv W) (j1 : 1 ≤ j) (j8 : j ≤ 8) (hx : Blk W x 81 #[.int .i64 l, .int .i64 m, .string ks, .func (.func 105) #[] #[.pointer (some ⟨p, 0, none⟩)]])
    (HE : ∀ W', Below W.heap.size W W' → Calls Tryz.prog 105 #[.slice A n c, .pointer (some ⟨p, 0, none⟩)] W' (PanP j W' [])) :
    Calls Tryz.prog 47 #[.slice A n c, .pointer (some ⟨x, 0, none⟩)] W (ResG B0 W [] Φ) := by
  have hmf : ∀ (fn : Fn) (first cap : Array Value) (w : World), (Instr.makeFunc fn first cap).run Tryz.prog w = .ok (.func fn first cap) w := fun _ _ _ _ => rfl
  have HL0 := Lib.hid ((Loc.start W).alloc' rfl 26 #[.int .i64 0, .string ⟨#[]⟩, .string ⟨#[]⟩, .string ⟨#[]⟩, .bool false, .int .i64 0, .int .i64 0, .int .i64 0, .slice none 0 0])
  have x3 := (hx.alloc (.cells #[.int .i64 0, .string ⟨#[]⟩, .string ⟨#[]⟩, .string ⟨#[]⟩, .bool false, .int .i64 0, .int .i64 0, .int .i64 0, .slice none 0 0] 26)).cell 3
  simp only [List.getElem?_toArray, List.getElem?_cons_succ, List.getElem?_cons_zero] at x3
  have HE0 := Lib.hid (HE _ HL0.out.bel)
  have HRC := Lib.hid fun w2 (hw : Below W.heap.size W w2) (hb : Blk w2 W.heap.size 26 #[.int .i64 0, .string ⟨#[]⟩, .string ⟨#[]⟩, .string ⟨#[]⟩, .bool false, .int .i64 0, .int .i64 0, .int .i64 0, .slice none 0 0]) => rec_stop W.heap.size j w2 (he.below hw) j1 j8 hb
  have HP := Lib.hid hΦ
  clear hx HE hΦ he
  go_enter_defers Tryz.func47, Tryz.ntmps47
  go_wp2_with (go_at_call 105; (with_reducible refine HE0.out.mono ?_); rintro e w2 ⟨rfl, hb⟩; have HC2 := Lib.hid hb; have HBW := Lib.hid (hb.blk (HL0.out.blk (g := W.heap.size) (t := 26) (List.mem_cons_self ..)) (by simp) (by simp)); clear hb x3)
  have hsz2 : (W.alloc (.cells #[.int .i64 0, .string ⟨#[]⟩, .string ⟨#[]⟩, .string ⟨#[]⟩, .bool false, .int .i64 0, .int .i64 0, .int .i64 0, .slice none 0 0] 26)).heap.size = W.heap.size + 1 := by simp
  have h12 : Chg W.heap.size [] W w2 := (Chg.of HL0.out.bel []).trans (HC2.out.mono (by rw [hsz2]; omega) fun x hx => by cases hx)
  refine leaves_cons (f := 48) (args := #[.pointer (some ⟨W.heap.size, 0, none⟩)]) (by simp) (by simp [go_sem]) ?_
  refine (HRC.out w2 (h12.below (Nat.le_refl _) (fun x hx => by cases hx)) HBW.out).mono ?_
  rintro e u' w'' ⟨rfl, rfl, hbk, hc⟩
  unfold fltU Vl.cs at hbk
  dsimp only at hbk
  obtain ⟨q0, q1, q2, q3, q4, q5, q6, q7, q8⟩ := hbk.nine
  have hc5 := h12.trans (hc.mono h12.size fun x hx => .inr (by rw [List.mem_singleton.1 hx]; exact Nat.le_refl _))
  have hres : ResG B0 W [] Φ (.returned (.agg #[.int .i64 4, .string ⟨#[]⟩, .string ⟨#[]⟩, .string ⟨#[]⟩, .bool false, .int .i64 (j : Int), .int .i64 0, .int .i64 0, .slice none 0 0])) w'' := ⟨4, ⟨#[]⟩, ⟨#[]⟩, ⟨#[]⟩, false, (j : Int), 0, 0, none, 0, 0, [], rfl, HP.out, reads_nil _, fun b o e => (by cases e), hc5⟩
  exact ⟨.agg #[.int .i64 4, .string ⟨#[]⟩, .string ⟨#[]⟩, .string ⟨#[]⟩, .bool false, .int .i64 (j : Int), .int .i64 0, .int .i64 0, .slice none 0 0], by simp [settle, results, Tryz.results47, go_sem, q0, q1, q2, q3, q4, q5, q6, q7, q8], hres⟩
end Go.Proofs.YtcnlonaighlmbaaGreatDoor
