/- ftext: LEN, LEFT, RIGHT, MID, REPLACE, EXACT at texts of characters. -/
import Derived.Test.YtcnlonaighlmbaaGreatDoorFtW
import Derived.Test.YtcnlonaighlmbaaGreatDoorFtK
import Derived.Test.YtcnlonaighlmbaaGreatDoorFtQ
import Derived.Test.YtcnlonaighlmbaaGreatDoorHaj
set_option linter.unusedSimpArgs false
set_option linter.unusedVariables false
namespace Go.Proofs.YtcnlonaighlmbaaGreatDoor
open Go.RowKit

set_option maxRecDepth 100000 in
set_option maxHeartbeats 4000000 in
/-- LEN. -/
theorem fLen_any (W0 W : World) (q : Nat) (A : Option Addr) (c : Nat) (cs : List (List UInt8)) (hcs : ChsOk cs) (hsz : (tx cs).size ≤ 32767) (he : VEnv W0) (h0 : Below W0.heap.size W0 W) (hq0 : W0.heap.size ≤ q) (hq : Blk W q 120 #[.slice A 1 c, .int .i64 0]) (hA : Reads 9 csV W0 (.slice A 1 c) [tV (tx cs)]) :
    Calls Tryz.prog 51 #[.pointer (some ⟨q, 0, none⟩)] W (ResV (nV cs.length) q W) := by
  have ht := txtE_chs hcs hsz
  have hl := len_size hcs
  have HT0 := Lib.hid (show ∀ W', Below W0.heap.size W0 W' → Blk W' q 120 #[.slice A 1 c, .int .i64 ((0 : Nat) : Int)] → Calls Tryz.prog 53 #[.pointer (some ⟨q, 0, none⟩)] W' fun e w' => e = .returned (.string (tx cs)) ∧ Blk w' q 120 #[.slice A 1 c, .int .i64 ((1 : Nat) : Int)] ∧ Below W0.heap.size W0 w' ∧ Chg W'.heap.size [q] W' w' from fun W' h1 h2 => text_b W0 W' q A 1 c 0 (tx cs) [tV (tx cs)] h1 hq0 h2 hA (by decide) (by decide) rfl he ht)
  have HRC := Lib.hid fun W' (_ : Below W0.heap.size W0 W') => count_c cs hcs hsz W'
  have HWH := Lib.hid (show ∀ W', Below W0.heap.size W0 W' → Calls Tryz.prog 22 #[.int .i64 ((cs.length : Nat) : Int)] W' fun e w' => e = .returned (.agg #[.int .i64 1, .string (nt cs.length), .string ⟨#[49]⟩, .string ⟨#[]⟩, .bool false, .int .i64 0, .int .i64 0, .int .i64 0, .slice none 0 0]) ∧ Below W'.heap.size W' w' from fun W' h1 => whole_t cs.length W' (by omega) (Lib.tabBelow_of_tabIs he.pw W' h1))
  have hql := hq.lt
  obtain ⟨r, hr⟩ : ∃ r, r = W.heap.size := ⟨_, rfl⟩
  have HR0 := Lib.hid (Blk.new W 26 #[.int .i64 0, .string ⟨#[]⟩, .string ⟨#[]⟩, .string ⟨#[]⟩, .bool false, .int .i64 0, .int .i64 0, .int .i64 0, .slice none 0 0])
  rw [← hr] at HR0
  have HTQ := Lib.hid (show r ∉ [q] from by rw [List.mem_singleton]; omega)
  have HQ0 := Lib.hid (show Blk (W.alloc (.cells #[.int .i64 0, .string ⟨#[]⟩, .string ⟨#[]⟩, .string ⟨#[]⟩, .bool false, .int .i64 0, .int .i64 0, .int .i64 0, .slice none 0 0] 26)) q 120 #[.slice A 1 c, .int .i64 ((0 : Nat) : Int)] from hq.alloc _)
  have HB0 := Lib.hid (h0.trans ((below_al W (.cells #[.int .i64 0, .string ⟨#[]⟩, .string ⟨#[]⟩, .string ⟨#[]⟩, .bool false, .int .i64 0, .int .i64 0, .int .i64 0, .slice none 0 0] 26)).mono h0.size))
  have HC0 := Lib.hid (Chg.of (below_al W (.cells #[.int .i64 0, .string ⟨#[]⟩, .string ⟨#[]⟩, .string ⟨#[]⟩, .bool false, .int .i64 0, .int .i64 0, .int .i64 0, .slice none 0 0] 26)) [q])
  have HH := Lib.hid hr
  clear h0 hq hA he hql
  go_enter Tryz.func51, Tryz.ntmps51
  go_upto_region 1 with fail
  rw [← hr]
  clear hr
  revert HR0 HQ0 HB0 HC0
  generalize W.alloc (.cells #[.int .i64 0, .string ⟨#[]⟩, .string ⟨#[]⟩, .string ⟨#[]⟩, .bool false, .int .i64 0, .int .i64 0, .int .i64 0, .slice none 0 0] 26) = w0
  intro HR0 HQ0 HB0 HC0
  go_upto_region 99 with (first
    | (go_at_call 53; (with_reducible refine (HT0.out _ HB0.out HQ0.out).mono ?_); rintro e w1 ⟨rfl, hq1, hb, hc⟩; have HQ1 := Lib.hid hq1; have HB1 := Lib.hid hb; have HC1 := Lib.hid (HC0.out.next hc); have HR1 := Lib.hid (hc.blk HR0.out HR0.out.lt HTQ.out); clear hq1 hb hc HQ0 HB0 HC0 HR0)
    | (go_at_call 52; (with_reducible refine (HRC.out _ HB1.out).mono ?_); rintro e w2 ⟨rfl, hb⟩; have HQ2 := Lib.hid (HQ1.out.later hb); have HB2 := Lib.hid (HB1.out.trans (hb.mono HB1.out.size)); have HC2 := Lib.hid (HC1.out.next (Chg.of hb [q])); have HR2 := Lib.hid (HR1.out.later hb); clear hb HQ1 HB1 HC1 HR1)
    | (go_at_call 22; (with_reducible refine (HWH.out _ HB2.out).mono ?_); rintro e w3 ⟨rfl, hb⟩; have HQ3 := Lib.hid (HQ2.out.later hb); have HB3 := Lib.hid (HB2.out.trans (hb.mono HB2.out.size)); have HC3 := Lib.hid (HC2.out.next (Chg.of hb [q])); have HR3 := Lib.hid (HR2.out.later hb); clear hb HQ2 HB2 HC2 HR2; obtain ⟨f0, f1, f2, f3, f4, f5, f6, f7, f8⟩ := HR3.out.ninef; obtain ⟨z0, z1, z2, z3, z4, z5, z6, z7, z8⟩ := HR3.out.nine))
  clear f0 f1 f2 f3 f4 f5 f6 f7 f8 z0 z1 z2 z3 z4 z5 z6 z7 z8
  obtain ⟨q0, q1, q2, q3, q4, q5, q6, q7, q8⟩ := (HR3.out.nine_set (.int .i64 1) (.string (nt cs.length)) (.string ⟨#[49]⟩) (.string ⟨#[]⟩) (.bool false) (.int .i64 0) (.int .i64 0) (.int .i64 0) (.slice none 0 0)).1.nine
  have hcn := chg_nine w3 r (.int .i64 1) (.string (nt cs.length)) (.string ⟨#[49]⟩) (.string ⟨#[]⟩) (.bool false) (.int .i64 0) (.int .i64 0) (.int .i64 0) (.slice none 0 0)
  refine bodyPost_ret (v := .agg #[.int .i64 1, .string (nt cs.length), .string ⟨#[49]⟩, .string ⟨#[]⟩, .bool false, .int .i64 0, .int .i64 0, .int .i64 0, .slice none 0 0]) (by simp [results, Tryz.results51, go_sem, q0, q1, q2, q3, q4, q5, q6, q7, q8]) rfl ⟨rfl, HC3.out.trans (hcn.mono HC3.out.size fun x hx => .inr (by
    rw [List.mem_singleton.1 hx, HH.out]
    exact Nat.le_refl _))⟩
set_option maxRecDepth 100000 in
set_option maxHeartbeats 4000000 in
/-- LEFT. -/
theorem fLef_any (W0 W : World) (q : Nat) (A : Option Addr) (c : Nat) (cs : List (List UInt8)) (hcs : ChsOk cs) (hsz : (tx cs).size ≤ 32767) (n : Nat) (hn : n ≤ 40000) (he : VEnv W0) (h0 : Below W0.heap.size W0 W) (hq0 : W0.heap.size ≤ q) (hq : Blk W q 120 #[.slice A 2 c, .int .i64 0]) (hA : Reads 9 csV W0 (.slice A 2 c) [tV (tx cs), nV n]) :
    Calls Tryz.prog 59 #[.pointer (some ⟨q, 0, none⟩)] W (ResV (tV (tx (cs.take n))) q W) := by
  have ht := txtE_chs hcs hsz
  have hl := len_size hcs
  have ht1 := txtE_chs (hcs.take n) (Nat.le_trans (tx_take_le cs n) hsz)
  have hsk := skB_le cs n
  have hn0 : ¬ (n : Int) < 0 := by omega
  have HT0 := Lib.hid (show ∀ W', Below W0.heap.size W0 W' → Blk W' q 120 #[.slice A 2 c, .int .i64 ((0 : Nat) : Int)] → Calls Tryz.prog 53 #[.pointer (some ⟨q, 0, none⟩)] W' fun e w' => e = .returned (.string (tx cs)) ∧ Blk w' q 120 #[.slice A 2 c, .int .i64 ((1 : Nat) : Int)] ∧ Below W0.heap.size W0 w' ∧ Chg W'.heap.size [q] W' w' from fun W' h1 h2 => text_b W0 W' q A 2 c 0 (tx cs) [tV (tx cs), nV n] h1 hq0 h2 hA (by decide) (by decide) rfl he ht)
  have HT1 := Lib.hid (show ∀ W', Below W0.heap.size W0 W' → Blk W' q 120 #[.slice A 2 c, .int .i64 ((1 : Nat) : Int)] → Calls Tryz.prog 114 #[.pointer (some ⟨q, 0, none⟩), .int .i64 1] W' fun e w' => e = .returned (.int .i64 (n : Int)) ∧ Blk w' q 120 #[.slice A 2 c, .int .i64 ((2 : Nat) : Int)] ∧ Below W0.heap.size W0 w' ∧ Chg W'.heap.size [q] W' w' from fun W' h1 h2 => wor_k 1 W0 W' q A 2 c 1 n [tV (tx cs), nV n] h1 hq0 h2 hA (by decide) (by decide) rfl he (by omega))
  have HSK := Lib.hid fun W' (h1 : Below W0.heap.size W0 W') => skip_c cs hcs hsz n (by omega) W' (he.below h1)
  have HTX := Lib.hid (show ∀ W', Below W0.heap.size W0 W' → Calls Tryz.prog 7 #[.string ((tx cs).extract 0 (skB cs n))] W' fun e w' => e = .returned (.agg #[.int .i64 2, .string ⟨#[]⟩, .string ⟨#[]⟩, .string (tx (cs.take n)), .bool false, .int .i64 0, .int .i64 0, .int .i64 0, .slice none 0 0]) ∧ Below W'.heap.size W' w' from fun W' h1 => by
    rw [tx_take]
    exact text_t (tx (cs.take n)) W' (he.below h1) ht1 (Nat.le_trans (txtE_size ht1) (by decide)))
  have hql := hq.lt
  obtain ⟨r, hr⟩ : ∃ r, r = W.heap.size := ⟨_, rfl⟩
  have HR0 := Lib.hid (Blk.new W 26 #[.int .i64 0, .string ⟨#[]⟩, .string ⟨#[]⟩, .string ⟨#[]⟩, .bool false, .int .i64 0, .int .i64 0, .int .i64 0, .slice none 0 0])
  rw [← hr] at HR0
  have HTQ := Lib.hid (show r ∉ [q] from by rw [List.mem_singleton]; omega)
  have HQ0 := Lib.hid (show Blk (W.alloc (.cells #[.int .i64 0, .string ⟨#[]⟩, .string ⟨#[]⟩, .string ⟨#[]⟩, .bool false, .int .i64 0, .int .i64 0, .int .i64 0, .slice none 0 0] 26)) q 120 #[.slice A 2 c, .int .i64 ((0 : Nat) : Int)] from hq.alloc _)
  have HB0 := Lib.hid (h0.trans ((below_al W (.cells #[.int .i64 0, .string ⟨#[]⟩, .string ⟨#[]⟩, .string ⟨#[]⟩, .bool false, .int .i64 0, .int .i64 0, .int .i64 0, .slice none 0 0] 26)).mono h0.size))
  have HC0 := Lib.hid (Chg.of (below_al W (.cells #[.int .i64 0, .string ⟨#[]⟩, .string ⟨#[]⟩, .string ⟨#[]⟩, .bool false, .int .i64 0, .int .i64 0, .int .i64 0, .slice none 0 0] 26)) [q])
  have HH := Lib.hid hr
  clear h0 hq hA he hql
  go_enter Tryz.func59, Tryz.ntmps59
  go_upto_region 1 with fail
  rw [← hr]
  clear hr
  revert HR0 HQ0 HB0 HC0
  generalize W.alloc (.cells #[.int .i64 0, .string ⟨#[]⟩, .string ⟨#[]⟩, .string ⟨#[]⟩, .bool false, .int .i64 0, .int .i64 0, .int .i64 0, .slice none 0 0] 26) = w0
  intro HR0 HQ0 HB0 HC0
  go_upto_region 99 with (first
    | (go_at_call 53; (with_reducible refine (HT0.out _ HB0.out HQ0.out).mono ?_); rintro e w1 ⟨rfl, hq1, hb, hc⟩; have HQ1 := Lib.hid hq1; have HB1 := Lib.hid hb; have HC1 := Lib.hid (HC0.out.next hc); have HR1 := Lib.hid (hc.blk HR0.out HR0.out.lt HTQ.out); clear hq1 hb hc HQ0 HB0 HC0 HR0)
    | (go_at_call 114; (with_reducible refine (HT1.out _ HB1.out HQ1.out).mono ?_); rintro e w2 ⟨rfl, hq1, hb, hc⟩; have HQ2 := Lib.hid hq1; have HB2 := Lib.hid hb; have HC2 := Lib.hid (HC1.out.next hc); have HR2 := Lib.hid (hc.blk HR1.out HR1.out.lt HTQ.out); clear hq1 hb hc HQ1 HB1 HC1 HR1)
    | (go_at_call 115; (with_reducible refine (wrong_b (by simp <;> omega) _).mono ?_); rintro e w2s ⟨rfl, rfl⟩)
    | (go_at_call 116; (with_reducible refine (HSK.out _ HB2.out).mono ?_); rintro e w3 ⟨rfl, hb⟩; have HQ3 := Lib.hid (HQ2.out.later hb); have HB3 := Lib.hid (HB2.out.trans (hb.mono HB2.out.size)); have HC3 := Lib.hid (HC2.out.next (Chg.of hb [q])); have HR3 := Lib.hid (HR2.out.later hb); clear hb HQ2 HB2 HC2 HR2)
    | (go_at_call 7; (with_reducible refine (HTX.out _ HB3.out).mono ?_); rintro e w4 ⟨rfl, hb⟩; have HQ4 := Lib.hid (HQ3.out.later hb); have HB4 := Lib.hid (HB3.out.trans (hb.mono HB3.out.size)); have HC4 := Lib.hid (HC3.out.next (Chg.of hb [q])); have HR4 := Lib.hid (HR3.out.later hb); clear hb HQ3 HB3 HC3 HR3; obtain ⟨f0, f1, f2, f3, f4, f5, f6, f7, f8⟩ := HR4.out.ninef; obtain ⟨z0, z1, z2, z3, z4, z5, z6, z7, z8⟩ := HR4.out.nine))
  clear f0 f1 f2 f3 f4 f5 f6 f7 f8 z0 z1 z2 z3 z4 z5 z6 z7 z8
  obtain ⟨q0, q1, q2, q3, q4, q5, q6, q7, q8⟩ := (HR4.out.nine_set (.int .i64 2) (.string ⟨#[]⟩) (.string ⟨#[]⟩) (.string (tx (cs.take n))) (.bool false) (.int .i64 0) (.int .i64 0) (.int .i64 0) (.slice none 0 0)).1.nine
  have hcn := chg_nine w4 r (.int .i64 2) (.string ⟨#[]⟩) (.string ⟨#[]⟩) (.string (tx (cs.take n))) (.bool false) (.int .i64 0) (.int .i64 0) (.int .i64 0) (.slice none 0 0)
  refine bodyPost_ret (v := .agg #[.int .i64 2, .string ⟨#[]⟩, .string ⟨#[]⟩, .string (tx (cs.take n)), .bool false, .int .i64 0, .int .i64 0, .int .i64 0, .slice none 0 0]) (by simp [results, Tryz.results59, go_sem, q0, q1, q2, q3, q4, q5, q6, q7, q8]) rfl ⟨rfl, HC4.out.trans (hcn.mono HC4.out.size fun x hx => .inr (by
    rw [List.mem_singleton.1 hx, HH.out]
    exact Nat.le_refl _))⟩
set_option maxRecDepth 100000 in
set_option maxHeartbeats 4000000 in
/-- RIGHT. -/
theorem fRig_any (W0 W : World) (q : Nat) (A : Option Addr) (c : Nat) (cs : List (List UInt8)) (hcs : ChsOk cs) (hsz : (tx cs).size ≤ 32767) (n : Nat) (hn : n ≤ cs.length) (he : VEnv W0) (h0 : Below W0.heap.size W0 W) (hq0 : W0.heap.size ≤ q) (hq : Blk W q 120 #[.slice A 2 c, .int .i64 0]) (hA : Reads 9 csV W0 (.slice A 2 c) [tV (tx cs), nV n]) :
    Calls Tryz.prog 60 #[.pointer (some ⟨q, 0, none⟩)] W (ResV (tV (tx (cs.drop (cs.length - n)))) q W) := by
  have ht := txtE_chs hcs hsz
  have hl := len_size hcs
  have ht1 := txtE_chs (hcs.drop (cs.length - n)) (Nat.le_trans (tx_drop_le cs _) hsz)
  have hsk := skB_le cs (cs.length - n)
  have hn0 : ¬ (n : Int) < 0 := by omega
  have hw1 : IntKind.i64.wrap (((cs.length : Nat) : Int) - (n : Int)) = ((cs.length - n : Nat) : Int) := by rw [IntWalk.i64_in _ (by omega)]; omega
  have HT0 := Lib.hid (show ∀ W', Below W0.heap.size W0 W' → Blk W' q 120 #[.slice A 2 c, .int .i64 ((0 : Nat) : Int)] → Calls Tryz.prog 53 #[.pointer (some ⟨q, 0, none⟩)] W' fun e w' => e = .returned (.string (tx cs)) ∧ Blk w' q 120 #[.slice A 2 c, .int .i64 ((1 : Nat) : Int)] ∧ Below W0.heap.size W0 w' ∧ Chg W'.heap.size [q] W' w' from fun W' h1 h2 => text_b W0 W' q A 2 c 0 (tx cs) [tV (tx cs), nV n] h1 hq0 h2 hA (by decide) (by decide) rfl he ht)
  have HT1 := Lib.hid (show ∀ W', Below W0.heap.size W0 W' → Blk W' q 120 #[.slice A 2 c, .int .i64 ((1 : Nat) : Int)] → Calls Tryz.prog 114 #[.pointer (some ⟨q, 0, none⟩), .int .i64 1] W' fun e w' => e = .returned (.int .i64 (n : Int)) ∧ Blk w' q 120 #[.slice A 2 c, .int .i64 ((2 : Nat) : Int)] ∧ Below W0.heap.size W0 w' ∧ Chg W'.heap.size [q] W' w' from fun W' h1 h2 => wor_k 1 W0 W' q A 2 c 1 n [tV (tx cs), nV n] h1 hq0 h2 hA (by decide) (by decide) rfl he (by omega))
  have HRC := Lib.hid fun W' (_ : Below W0.heap.size W0 W') => count_c cs hcs hsz W'
  have HSK := Lib.hid fun W' (h1 : Below W0.heap.size W0 W') => skip_c cs hcs hsz (cs.length - n) (by omega) W' (he.below h1)
  have HTX := Lib.hid (show ∀ W', Below W0.heap.size W0 W' → Calls Tryz.prog 7 #[.string ((tx cs).extract (skB cs (cs.length - n)) (tx cs).size)] W' fun e w' => e = .returned (.agg #[.int .i64 2, .string ⟨#[]⟩, .string ⟨#[]⟩, .string (tx (cs.drop (cs.length - n))), .bool false, .int .i64 0, .int .i64 0, .int .i64 0, .slice none 0 0]) ∧ Below W'.heap.size W' w' from fun W' h1 => by
    rw [tx_drop]
    exact text_t (tx (cs.drop (cs.length - n))) W' (he.below h1) ht1 (Nat.le_trans (txtE_size ht1) (by decide)))
  have hql := hq.lt
  obtain ⟨r, hr⟩ : ∃ r, r = W.heap.size := ⟨_, rfl⟩
  have HR0 := Lib.hid (Blk.new W 26 #[.int .i64 0, .string ⟨#[]⟩, .string ⟨#[]⟩, .string ⟨#[]⟩, .bool false, .int .i64 0, .int .i64 0, .int .i64 0, .slice none 0 0])
  rw [← hr] at HR0
  have HTQ := Lib.hid (show r ∉ [q] from by rw [List.mem_singleton]; omega)
  have HQ0 := Lib.hid (show Blk (W.alloc (.cells #[.int .i64 0, .string ⟨#[]⟩, .string ⟨#[]⟩, .string ⟨#[]⟩, .bool false, .int .i64 0, .int .i64 0, .int .i64 0, .slice none 0 0] 26)) q 120 #[.slice A 2 c, .int .i64 ((0 : Nat) : Int)] from hq.alloc _)
  have HB0 := Lib.hid (h0.trans ((below_al W (.cells #[.int .i64 0, .string ⟨#[]⟩, .string ⟨#[]⟩, .string ⟨#[]⟩, .bool false, .int .i64 0, .int .i64 0, .int .i64 0, .slice none 0 0] 26)).mono h0.size))
  have HC0 := Lib.hid (Chg.of (below_al W (.cells #[.int .i64 0, .string ⟨#[]⟩, .string ⟨#[]⟩, .string ⟨#[]⟩, .bool false, .int .i64 0, .int .i64 0, .int .i64 0, .slice none 0 0] 26)) [q])
  have HH := Lib.hid hr
  clear h0 hq hA he hql
  go_enter Tryz.func60, Tryz.ntmps60
  go_upto_region 1 with fail
  rw [← hr]
  clear hr
  revert HR0 HQ0 HB0 HC0
  generalize W.alloc (.cells #[.int .i64 0, .string ⟨#[]⟩, .string ⟨#[]⟩, .string ⟨#[]⟩, .bool false, .int .i64 0, .int .i64 0, .int .i64 0, .slice none 0 0] 26) = w0
  intro HR0 HQ0 HB0 HC0
  go_upto_region 99 with (first
    | (go_at_call 53; (with_reducible refine (HT0.out _ HB0.out HQ0.out).mono ?_); rintro e w1 ⟨rfl, hq1, hb, hc⟩; have HQ1 := Lib.hid hq1; have HB1 := Lib.hid hb; have HC1 := Lib.hid (HC0.out.next hc); have HR1 := Lib.hid (hc.blk HR0.out HR0.out.lt HTQ.out); clear hq1 hb hc HQ0 HB0 HC0 HR0)
    | (go_at_call 114; (with_reducible refine (HT1.out _ HB1.out HQ1.out).mono ?_); rintro e w2 ⟨rfl, hq1, hb, hc⟩; have HQ2 := Lib.hid hq1; have HB2 := Lib.hid hb; have HC2 := Lib.hid (HC1.out.next hc); have HR2 := Lib.hid (hc.blk HR1.out HR1.out.lt HTQ.out); clear hq1 hb hc HQ1 HB1 HC1 HR1)
    | (go_at_call 115; (with_reducible refine (wrong_b (by simp <;> omega) _).mono ?_); rintro e w2s ⟨rfl, rfl⟩)
    | (go_at_call 52; (with_reducible refine (HRC.out _ HB2.out).mono ?_); rintro e w3 ⟨rfl, hb⟩; have HQ3 := Lib.hid (HQ2.out.later hb); have HB3 := Lib.hid (HB2.out.trans (hb.mono HB2.out.size)); have HC3 := Lib.hid (HC2.out.next (Chg.of hb [q])); have HR3 := Lib.hid (HR2.out.later hb); clear hb HQ2 HB2 HC2 HR2)
    | (go_at_call 116; (with_reducible refine (HSK.out _ HB3.out).mono ?_); rintro e w4 ⟨rfl, hb⟩; have HQ4 := Lib.hid (HQ3.out.later hb); have HB4 := Lib.hid (HB3.out.trans (hb.mono HB3.out.size)); have HC4 := Lib.hid (HC3.out.next (Chg.of hb [q])); have HR4 := Lib.hid (HR3.out.later hb); clear hb HQ3 HB3 HC3 HR3)
    | (go_at_call 7; (with_reducible refine (HTX.out _ HB4.out).mono ?_); rintro e w5 ⟨rfl, hb⟩; have HQ5 := Lib.hid (HQ4.out.later hb); have HB5 := Lib.hid (HB4.out.trans (hb.mono HB4.out.size)); have HC5 := Lib.hid (HC4.out.next (Chg.of hb [q])); have HR5 := Lib.hid (HR4.out.later hb); clear hb HQ4 HB4 HC4 HR4; obtain ⟨f0, f1, f2, f3, f4, f5, f6, f7, f8⟩ := HR5.out.ninef; obtain ⟨z0, z1, z2, z3, z4, z5, z6, z7, z8⟩ := HR5.out.nine))
  clear f0 f1 f2 f3 f4 f5 f6 f7 f8 z0 z1 z2 z3 z4 z5 z6 z7 z8
  obtain ⟨q0, q1, q2, q3, q4, q5, q6, q7, q8⟩ := (HR5.out.nine_set (.int .i64 2) (.string ⟨#[]⟩) (.string ⟨#[]⟩) (.string (tx (cs.drop (cs.length - n)))) (.bool false) (.int .i64 0) (.int .i64 0) (.int .i64 0) (.slice none 0 0)).1.nine
  have hcn := chg_nine w5 r (.int .i64 2) (.string ⟨#[]⟩) (.string ⟨#[]⟩) (.string (tx (cs.drop (cs.length - n)))) (.bool false) (.int .i64 0) (.int .i64 0) (.int .i64 0) (.slice none 0 0)
  refine bodyPost_ret (v := .agg #[.int .i64 2, .string ⟨#[]⟩, .string ⟨#[]⟩, .string (tx (cs.drop (cs.length - n))), .bool false, .int .i64 0, .int .i64 0, .int .i64 0, .slice none 0 0]) (by simp [results, Tryz.results60, go_sem, q0, q1, q2, q3, q4, q5, q6, q7, q8]) rfl ⟨rfl, HC5.out.trans (hcn.mono HC5.out.size fun x hx => .inr (by
    rw [List.mem_singleton.1 hx, HH.out]
    exact Nat.le_refl _))⟩
set_option maxRecDepth 100000 in
set_option maxHeartbeats 4000000 in
/-- MID. -/
theorem fMid_any (W0 W : World) (q : Nat) (A : Option Addr) (c : Nat) (cs : List (List UInt8)) (hcs : ChsOk cs) (hsz : (tx cs).size ≤ 32767) (m k : Nat) (hm : m + k ≤ cs.length) (he : VEnv W0) (h0 : Below W0.heap.size W0 W) (hq0 : W0.heap.size ≤ q) (hq : Blk W q 120 #[.slice A 3 c, .int .i64 0]) (hA : Reads 9 csV W0 (.slice A 3 c) [tV (tx cs), nV (m + 1), nV k]) :
    Calls Tryz.prog 61 #[.pointer (some ⟨q, 0, none⟩)] W (ResV (tV (tx ((cs.drop m).take k))) q W) := by
  have ht := txtE_chs hcs hsz
  have hl := len_size hcs
  have ht1 := txtE_chs ((hcs.drop m).take k) (Nat.le_trans (tx_take_le (cs.drop m) k) (Nat.le_trans (tx_drop_le cs m) hsz))
  have hsk := skB_le cs m
  have hn0 : ¬ ((m + 1 : Nat) : Int) < 1 := by omega
  have hk0 : ¬ (k : Int) < 0 := by omega
  have hw1 : IntKind.i64.wrap (((m + 1 : Nat) : Int) - 1) = (m : Int) := by rw [IntWalk.i64_in _ (by omega)]; omega
  have HT0 := Lib.hid (show ∀ W', Below W0.heap.size W0 W' → Blk W' q 120 #[.slice A 3 c, .int .i64 ((0 : Nat) : Int)] → Calls Tryz.prog 53 #[.pointer (some ⟨q, 0, none⟩)] W' fun e w' => e = .returned (.string (tx cs)) ∧ Blk w' q 120 #[.slice A 3 c, .int .i64 ((1 : Nat) : Int)] ∧ Below W0.heap.size W0 w' ∧ Chg W'.heap.size [q] W' w' from fun W' h1 h2 => text_b W0 W' q A 3 c 0 (tx cs) [tV (tx cs), nV (m + 1), nV k] h1 hq0 h2 hA (by decide) (by decide) rfl he ht)
  have HT1 := Lib.hid (show ∀ W', Below W0.heap.size W0 W' → Blk W' q 120 #[.slice A 3 c, .int .i64 ((1 : Nat) : Int)] → Calls Tryz.prog 117 #[.pointer (some ⟨q, 0, none⟩)] W' fun e w' => e = .returned (.int .i64 ((m + 1) : Int)) ∧ Blk w' q 120 #[.slice A 3 c, .int .i64 ((2 : Nat) : Int)] ∧ Below W0.heap.size W0 w' ∧ Chg W'.heap.size [q] W' w' from fun W' h1 h2 => whole_b W0 W' q A 3 c 1 (m + 1) [tV (tx cs), nV (m + 1), nV k] h1 hq0 h2 hA (by decide) (by decide) rfl he (by omega))
  have HT2 := Lib.hid (show ∀ W', Below W0.heap.size W0 W' → Blk W' q 120 #[.slice A 3 c, .int .i64 ((2 : Nat) : Int)] → Calls Tryz.prog 117 #[.pointer (some ⟨q, 0, none⟩)] W' fun e w' => e = .returned (.int .i64 (k : Int)) ∧ Blk w' q 120 #[.slice A 3 c, .int .i64 ((3 : Nat) : Int)] ∧ Below W0.heap.size W0 w' ∧ Chg W'.heap.size [q] W' w' from fun W' h1 h2 => whole_b W0 W' q A 3 c 2 k [tV (tx cs), nV (m + 1), nV k] h1 hq0 h2 hA (by decide) (by decide) rfl he (by omega))
  have HSK := Lib.hid fun W' (h1 : Below W0.heap.size W0 W') => skip_c cs hcs hsz m (by omega) W' (he.below h1)
  have HSK2 := Lib.hid (show ∀ W', Below W0.heap.size W0 W' → Calls Tryz.prog 116 #[.string ((tx cs).extract (skB cs m) (tx cs).size), .int .i64 (k : Int)] W' fun e w' => e = .returned (.int .i64 ((skB (cs.drop m) k : Nat) : Int)) ∧ Below W'.heap.size W' w' from fun W' h1 => by
    rw [tx_drop]
    exact skip_c (cs.drop m) (hcs.drop m) (Nat.le_trans (tx_drop_le cs m) hsz) k (by omega) W' (he.below h1))
  have hsk3 := skB_le (cs.drop m) k
  have hsk4 : (tx (cs.drop m)).size = (tx cs).size - skB cs m := by rw [← tx_drop, Lib.size_rest]
  have HTX := Lib.hid (show ∀ W', Below W0.heap.size W0 W' → Calls Tryz.prog 7 #[.string (((tx cs).extract (skB cs m) (tx cs).size).extract 0 (skB (cs.drop m) k))] W' fun e w' => e = .returned (.agg #[.int .i64 2, .string ⟨#[]⟩, .string ⟨#[]⟩, .string (tx ((cs.drop m).take k)), .bool false, .int .i64 0, .int .i64 0, .int .i64 0, .slice none 0 0]) ∧ Below W'.heap.size W' w' from fun W' h1 => by
    rw [tx_drop, tx_take]
    exact text_t (tx ((cs.drop m).take k)) W' (he.below h1) ht1 (Nat.le_trans (txtE_size ht1) (by decide)))
  have hql := hq.lt
  obtain ⟨r, hr⟩ : ∃ r, r = W.heap.size := ⟨_, rfl⟩
  have HR0 := Lib.hid (Blk.new W 26 #[.int .i64 0, .string ⟨#[]⟩, .string ⟨#[]⟩, .string ⟨#[]⟩, .bool false, .int .i64 0, .int .i64 0, .int .i64 0, .slice none 0 0])
  rw [← hr] at HR0
  have HTQ := Lib.hid (show r ∉ [q] from by rw [List.mem_singleton]; omega)
  have HQ0 := Lib.hid (show Blk (W.alloc (.cells #[.int .i64 0, .string ⟨#[]⟩, .string ⟨#[]⟩, .string ⟨#[]⟩, .bool false, .int .i64 0, .int .i64 0, .int .i64 0, .slice none 0 0] 26)) q 120 #[.slice A 3 c, .int .i64 ((0 : Nat) : Int)] from hq.alloc _)
  have HB0 := Lib.hid (h0.trans ((below_al W (.cells #[.int .i64 0, .string ⟨#[]⟩, .string ⟨#[]⟩, .string ⟨#[]⟩, .bool false, .int .i64 0, .int .i64 0, .int .i64 0, .slice none 0 0] 26)).mono h0.size))
  have HC0 := Lib.hid (Chg.of (below_al W (.cells #[.int .i64 0, .string ⟨#[]⟩, .string ⟨#[]⟩, .string ⟨#[]⟩, .bool false, .int .i64 0, .int .i64 0, .int .i64 0, .slice none 0 0] 26)) [q])
  have HH := Lib.hid hr
  clear h0 hq hA he hql
  go_enter Tryz.func61, Tryz.ntmps61
  go_upto_region 1 with fail
  rw [← hr]
  clear hr
  revert HR0 HQ0 HB0 HC0
  generalize W.alloc (.cells #[.int .i64 0, .string ⟨#[]⟩, .string ⟨#[]⟩, .string ⟨#[]⟩, .bool false, .int .i64 0, .int .i64 0, .int .i64 0, .slice none 0 0] 26) = w0
  intro HR0 HQ0 HB0 HC0
  go_upto_region 99 with (first
    | (go_at_call 53; (with_reducible refine (HT0.out _ HB0.out HQ0.out).mono ?_); rintro e w1 ⟨rfl, hq1, hb, hc⟩; have HQ1 := Lib.hid hq1; have HB1 := Lib.hid hb; have HC1 := Lib.hid (HC0.out.next hc); have HR1 := Lib.hid (hc.blk HR0.out HR0.out.lt HTQ.out); clear hq1 hb hc HQ0 HB0 HC0 HR0)
    | (go_at_call 117; (with_reducible refine (HT1.out _ HB1.out HQ1.out).mono ?_); rintro e w2 ⟨rfl, hq1, hb, hc⟩; have HQ2 := Lib.hid hq1; have HB2 := Lib.hid hb; have HC2 := Lib.hid (HC1.out.next hc); have HR2 := Lib.hid (hc.blk HR1.out HR1.out.lt HTQ.out); clear hq1 hb hc HQ1 HB1 HC1 HR1)
    | (go_at_call 117; (with_reducible refine (HT2.out _ HB2.out HQ2.out).mono ?_); rintro e w3 ⟨rfl, hq1, hb, hc⟩; have HQ3 := Lib.hid hq1; have HB3 := Lib.hid hb; have HC3 := Lib.hid (HC2.out.next hc); have HR3 := Lib.hid (hc.blk HR2.out HR2.out.lt HTQ.out); clear hq1 hb hc HQ2 HB2 HC2 HR2)
    | (go_at_call 115; (with_reducible refine (wrong_b (by simp <;> omega) _).mono ?_); rintro e w3s ⟨rfl, rfl⟩)
    | (go_at_call 116; (with_reducible refine (HSK.out _ HB3.out).mono ?_); rintro e w4 ⟨rfl, hb⟩; have HQ4 := Lib.hid (HQ3.out.later hb); have HB4 := Lib.hid (HB3.out.trans (hb.mono HB3.out.size)); have HC4 := Lib.hid (HC3.out.next (Chg.of hb [q])); have HR4 := Lib.hid (HR3.out.later hb); clear hb HQ3 HB3 HC3 HR3)
    | (go_at_call 116; (with_reducible refine (HSK2.out _ HB4.out).mono ?_); rintro e w5 ⟨rfl, hb⟩; have HQ5 := Lib.hid (HQ4.out.later hb); have HB5 := Lib.hid (HB4.out.trans (hb.mono HB4.out.size)); have HC5 := Lib.hid (HC4.out.next (Chg.of hb [q])); have HR5 := Lib.hid (HR4.out.later hb); clear hb HQ4 HB4 HC4 HR4)
    | (go_at_call 7; (with_reducible refine (HTX.out _ HB5.out).mono ?_); rintro e w6 ⟨rfl, hb⟩; have HQ6 := Lib.hid (HQ5.out.later hb); have HB6 := Lib.hid (HB5.out.trans (hb.mono HB5.out.size)); have HC6 := Lib.hid (HC5.out.next (Chg.of hb [q])); have HR6 := Lib.hid (HR5.out.later hb); clear hb HQ5 HB5 HC5 HR5; obtain ⟨f0, f1, f2, f3, f4, f5, f6, f7, f8⟩ := HR6.out.ninef; obtain ⟨z0, z1, z2, z3, z4, z5, z6, z7, z8⟩ := HR6.out.nine))
  clear f0 f1 f2 f3 f4 f5 f6 f7 f8 z0 z1 z2 z3 z4 z5 z6 z7 z8
  obtain ⟨q0, q1, q2, q3, q4, q5, q6, q7, q8⟩ := (HR6.out.nine_set (.int .i64 2) (.string ⟨#[]⟩) (.string ⟨#[]⟩) (.string (tx ((cs.drop m).take k))) (.bool false) (.int .i64 0) (.int .i64 0) (.int .i64 0) (.slice none 0 0)).1.nine
  have hcn := chg_nine w6 r (.int .i64 2) (.string ⟨#[]⟩) (.string ⟨#[]⟩) (.string (tx ((cs.drop m).take k))) (.bool false) (.int .i64 0) (.int .i64 0) (.int .i64 0) (.slice none 0 0)
  refine bodyPost_ret (v := .agg #[.int .i64 2, .string ⟨#[]⟩, .string ⟨#[]⟩, .string (tx ((cs.drop m).take k)), .bool false, .int .i64 0, .int .i64 0, .int .i64 0, .slice none 0 0]) (by simp [results, Tryz.results61, go_sem, q0, q1, q2, q3, q4, q5, q6, q7, q8]) rfl ⟨rfl, HC6.out.trans (hcn.mono HC6.out.size fun x hx => .inr (by
    rw [List.mem_singleton.1 hx, HH.out]
    exact Nat.le_refl _))⟩
set_option maxRecDepth 100000 in
set_option maxHeartbeats 4000000 in
/-- REPLACE, by what was there. -/
theorem fRep_any (W0 W : World) (q : Nat) (A : Option Addr) (c : Nat) (cs : List (List UInt8)) (hcs : ChsOk cs) (hsz : (tx cs).size ≤ 32767) (m k : Nat) (hm : m + k ≤ cs.length) (he : VEnv W0) (h0 : Below W0.heap.size W0 W) (hq0 : W0.heap.size ≤ q) (hq : Blk W q 120 #[.slice A 4 c, .int .i64 0]) (hA : Reads 9 csV W0 (.slice A 4 c) [tV (tx cs), nV (m + 1), nV k, tV (tx ((cs.drop m).take k))]) :
    Calls Tryz.prog 68 #[.pointer (some ⟨q, 0, none⟩)] W (ResV (tV (tx cs)) q W) := by
  have ht := txtE_chs hcs hsz
  have hl := len_size hcs
  have ht1 := txtE_chs ((hcs.drop m).take k) (Nat.le_trans (tx_take_le (cs.drop m) k) (Nat.le_trans (tx_drop_le cs m) hsz))
  have hsk := skB_le cs m
  have hsk5 := skB_le cs (m + k)
  have hadd := skB_add cs m k
  have hz1 := txtE_size ht1
  have hn0 : ¬ ((m + 1 : Nat) : Int) < 1 := by omega
  have hk0 : ¬ (k : Int) < 0 := by omega
  have hw1 : IntKind.i64.wrap (((m + 1 : Nat) : Int) - 1) = (m : Int) := by rw [IntWalk.i64_in _ (by omega)]; omega
  have HT0 := Lib.hid (show ∀ W', Below W0.heap.size W0 W' → Blk W' q 120 #[.slice A 4 c, .int .i64 ((0 : Nat) : Int)] → Calls Tryz.prog 53 #[.pointer (some ⟨q, 0, none⟩)] W' fun e w' => e = .returned (.string (tx cs)) ∧ Blk w' q 120 #[.slice A 4 c, .int .i64 ((1 : Nat) : Int)] ∧ Below W0.heap.size W0 w' ∧ Chg W'.heap.size [q] W' w' from fun W' h1 h2 => text_b W0 W' q A 4 c 0 (tx cs) [tV (tx cs), nV (m + 1), nV k, tV (tx ((cs.drop m).take k))] h1 hq0 h2 hA (by decide) (by decide) rfl he ht)
  have HT1 := Lib.hid (show ∀ W', Below W0.heap.size W0 W' → Blk W' q 120 #[.slice A 4 c, .int .i64 ((1 : Nat) : Int)] → Calls Tryz.prog 117 #[.pointer (some ⟨q, 0, none⟩)] W' fun e w' => e = .returned (.int .i64 ((m + 1) : Int)) ∧ Blk w' q 120 #[.slice A 4 c, .int .i64 ((2 : Nat) : Int)] ∧ Below W0.heap.size W0 w' ∧ Chg W'.heap.size [q] W' w' from fun W' h1 h2 => whole_b W0 W' q A 4 c 1 (m + 1) [tV (tx cs), nV (m + 1), nV k, tV (tx ((cs.drop m).take k))] h1 hq0 h2 hA (by decide) (by decide) rfl he (by omega))
  have HT2 := Lib.hid (show ∀ W', Below W0.heap.size W0 W' → Blk W' q 120 #[.slice A 4 c, .int .i64 ((2 : Nat) : Int)] → Calls Tryz.prog 117 #[.pointer (some ⟨q, 0, none⟩)] W' fun e w' => e = .returned (.int .i64 (k : Int)) ∧ Blk w' q 120 #[.slice A 4 c, .int .i64 ((3 : Nat) : Int)] ∧ Below W0.heap.size W0 w' ∧ Chg W'.heap.size [q] W' w' from fun W' h1 h2 => whole_b W0 W' q A 4 c 2 k [tV (tx cs), nV (m + 1), nV k, tV (tx ((cs.drop m).take k))] h1 hq0 h2 hA (by decide) (by decide) rfl he (by omega))
  have HT3 := Lib.hid (show ∀ W', Below W0.heap.size W0 W' → Blk W' q 120 #[.slice A 4 c, .int .i64 ((3 : Nat) : Int)] → Calls Tryz.prog 53 #[.pointer (some ⟨q, 0, none⟩)] W' fun e w' => e = .returned (.string (tx ((cs.drop m).take k))) ∧ Blk w' q 120 #[.slice A 4 c, .int .i64 ((4 : Nat) : Int)] ∧ Below W0.heap.size W0 w' ∧ Chg W'.heap.size [q] W' w' from fun W' h1 h2 => text_b W0 W' q A 4 c 3 (tx ((cs.drop m).take k)) [tV (tx cs), nV (m + 1), nV k, tV (tx ((cs.drop m).take k))] h1 hq0 h2 hA (by decide) (by decide) rfl he ht1)
  have HSK := Lib.hid fun W' (h1 : Below W0.heap.size W0 W') => skip_c cs hcs hsz m (by omega) W' (he.below h1)
  have HSK2 := Lib.hid (show ∀ W', Below W0.heap.size W0 W' → Calls Tryz.prog 116 #[.string ((tx cs).extract (skB cs m) (tx cs).size), .int .i64 (k : Int)] W' fun e w' => e = .returned (.int .i64 ((skB (cs.drop m) k : Nat) : Int)) ∧ Below W'.heap.size W' w' from fun W' h1 => by
    rw [tx_drop]
    exact skip_c (cs.drop m) (hcs.drop m) (Nat.le_trans (tx_drop_le cs m) hsz) k (by omega) W' (he.below h1))
  have hw2 : IntKind.i64.wrap (((skB cs m : Nat) : Int) + ((skB (cs.drop m) k : Nat) : Int)) = ((skB cs (m + k) : Nat) : Int) := by rw [IntWalk.i64_in _ (by omega)]; omega
  have HTX := Lib.hid (show ∀ W', Below W0.heap.size W0 W' → Calls Tryz.prog 7 #[.string ((tx cs).extract 0 (skB cs m) ++ tx ((cs.drop m).take k) ++ (tx cs).extract (skB cs (m + k)) (tx cs).size)] W' fun e w' => e = .returned (.agg #[.int .i64 2, .string ⟨#[]⟩, .string ⟨#[]⟩, .string (tx cs), .bool false, .int .i64 0, .int .i64 0, .int .i64 0, .slice none 0 0]) ∧ Below W'.heap.size W' w' from fun W' h1 => by
    rw [tx_take, tx_drop, tx_parts3]
    exact text_t (tx cs) W' (he.below h1) ht (Nat.le_trans (txtE_size ht) (by decide)))
  have hql := hq.lt
  obtain ⟨r, hr⟩ : ∃ r, r = W.heap.size := ⟨_, rfl⟩
  have HR0 := Lib.hid (Blk.new W 26 #[.int .i64 0, .string ⟨#[]⟩, .string ⟨#[]⟩, .string ⟨#[]⟩, .bool false, .int .i64 0, .int .i64 0, .int .i64 0, .slice none 0 0])
  rw [← hr] at HR0
  have HTQ := Lib.hid (show r ∉ [q] from by rw [List.mem_singleton]; omega)
  have HQ0 := Lib.hid (show Blk (W.alloc (.cells #[.int .i64 0, .string ⟨#[]⟩, .string ⟨#[]⟩, .string ⟨#[]⟩, .bool false, .int .i64 0, .int .i64 0, .int .i64 0, .slice none 0 0] 26)) q 120 #[.slice A 4 c, .int .i64 ((0 : Nat) : Int)] from hq.alloc _)
  have HB0 := Lib.hid (h0.trans ((below_al W (.cells #[.int .i64 0, .string ⟨#[]⟩, .string ⟨#[]⟩, .string ⟨#[]⟩, .bool false, .int .i64 0, .int .i64 0, .int .i64 0, .slice none 0 0] 26)).mono h0.size))
  have HC0 := Lib.hid (Chg.of (below_al W (.cells #[.int .i64 0, .string ⟨#[]⟩, .string ⟨#[]⟩, .string ⟨#[]⟩, .bool false, .int .i64 0, .int .i64 0, .int .i64 0, .slice none 0 0] 26)) [q])
  have HH := Lib.hid hr
  clear h0 hq hA he hql
  go_enter Tryz.func68, Tryz.ntmps68
  go_upto_region 1 with fail
  rw [← hr]
  clear hr
  revert HR0 HQ0 HB0 HC0
  generalize W.alloc (.cells #[.int .i64 0, .string ⟨#[]⟩, .string ⟨#[]⟩, .string ⟨#[]⟩, .bool false, .int .i64 0, .int .i64 0, .int .i64 0, .slice none 0 0] 26) = w0
  intro HR0 HQ0 HB0 HC0
  go_upto_region 4 with (first
    | (go_at_call 53; (with_reducible refine (HT0.out _ HB0.out HQ0.out).mono ?_); rintro e w1 ⟨rfl, hq1, hb, hc⟩; have HQ1 := Lib.hid hq1; have HB1 := Lib.hid hb; have HC1 := Lib.hid (HC0.out.next hc); have HR1 := Lib.hid (hc.blk HR0.out HR0.out.lt HTQ.out); clear hq1 hb hc HQ0 HB0 HC0 HR0)
    | (go_at_call 117; (with_reducible refine (HT1.out _ HB1.out HQ1.out).mono ?_); rintro e w2 ⟨rfl, hq1, hb, hc⟩; have HQ2 := Lib.hid hq1; have HB2 := Lib.hid hb; have HC2 := Lib.hid (HC1.out.next hc); have HR2 := Lib.hid (hc.blk HR1.out HR1.out.lt HTQ.out); clear hq1 hb hc HQ1 HB1 HC1 HR1)
    | (go_at_call 117; (with_reducible refine (HT2.out _ HB2.out HQ2.out).mono ?_); rintro e w3 ⟨rfl, hq1, hb, hc⟩; have HQ3 := Lib.hid hq1; have HB3 := Lib.hid hb; have HC3 := Lib.hid (HC2.out.next hc); have HR3 := Lib.hid (hc.blk HR2.out HR2.out.lt HTQ.out); clear hq1 hb hc HQ2 HB2 HC2 HR2)
    | (go_at_call 53; (with_reducible refine (HT3.out _ HB3.out HQ3.out).mono ?_); rintro e w4 ⟨rfl, hq1, hb, hc⟩; have HQ4 := Lib.hid hq1; have HB4 := Lib.hid hb; have HC4 := Lib.hid (HC3.out.next hc); have HR4 := Lib.hid (hc.blk HR3.out HR3.out.lt HTQ.out); clear hq1 hb hc HQ3 HB3 HC3 HR3)
    | (go_at_call 115; (with_reducible refine (wrong_b (by simp <;> omega) _).mono ?_); rintro e w4s ⟨rfl, rfl⟩)
    | (go_at_call 116; (with_reducible refine (HSK.out _ HB4.out).mono ?_); rintro e w5 ⟨rfl, hb⟩; have HQ5 := Lib.hid (HQ4.out.later hb); have HB5 := Lib.hid (HB4.out.trans (hb.mono HB4.out.size)); have HC5 := Lib.hid (HC4.out.next (Chg.of hb [q])); have HR5 := Lib.hid (HR4.out.later hb); clear hb HQ4 HB4 HC4 HR4)
    | (go_at_call 116; (with_reducible refine (HSK2.out _ HB5.out).mono ?_); rintro e w6 ⟨rfl, hb⟩; have HQ6 := Lib.hid (HQ5.out.later hb); have HB6 := Lib.hid (HB5.out.trans (hb.mono HB5.out.size)); have HC6 := Lib.hid (HC5.out.next (Chg.of hb [q])); have HR6 := Lib.hid (HR5.out.later hb); clear hb HQ5 HB5 HC5 HR5)
    | (go_at_call 7; (with_reducible refine (HTX.out _ HB6.out).mono ?_); rintro e w7 ⟨rfl, hb⟩; have HQ7 := Lib.hid (HQ6.out.later hb); have HB7 := Lib.hid (HB6.out.trans (hb.mono HB6.out.size)); have HC7 := Lib.hid (HC6.out.next (Chg.of hb [q])); have HR7 := Lib.hid (HR6.out.later hb); clear hb HQ6 HB6 HC6 HR6; obtain ⟨f0, f1, f2, f3, f4, f5, f6, f7, f8⟩ := HR7.out.ninef; obtain ⟨z0, z1, z2, z3, z4, z5, z6, z7, z8⟩ := HR7.out.nine))
  refine wp_region_G (S1 := fun _ => True) (S2 := fun _ => True) (d := 99) (by kernel_rfl) trivial trivial (fun hT => ?_)
  have HQ5 := Lib.hid (show Blk w5.drew q 120 _ from HQ5.out)
  have HR5 := Lib.hid (show Blk w5.drew r 26 _ from HR5.out)
  have HB5 := Lib.hid HB5.out.drew
  have HC5 := Lib.hid HC5.out.drew
  revert HQ5 HR5 HB5 HC5
  generalize w5.drew = w5
  intro HQ5 HR5 HB5 HC5
  refine wpAnyG_take1d (i := 0) (v := ?_) rfl rfl (by kernel_rfl) (by kernel_rfl) (by kernel_rfl) (by kernel_rfl) (fun _ _ _ h => h) (Or.inl ⟨by rfl, ?_⟩) (by assumption) (fun hT => ?_)
  rotate_left
  · intro w hSw
    (try dsimp only at hSw)
    go_simp
    (try with_reducible rfl)
  (try simp only [Act.put, List.setIfInBounds_toArray, List.set_cons_zero, List.set_cons_succ])
  refine wpAnyG_take1d (i := 1) (v := ?_) rfl rfl (by kernel_rfl) (by kernel_rfl) (by kernel_rfl) (by kernel_rfl) (fun _ _ _ h => h) (Or.inl ⟨by rfl, ?_⟩) (by assumption) (fun hT => ?_)
  rotate_left
  · intro w hSw
    (try dsimp only at hSw)
    go_simp
    (try with_reducible rfl)
  (try simp only [Act.put, List.setIfInBounds_toArray, List.set_cons_zero, List.set_cons_succ])
  refine wpAnyG_take1d (i := 2) (v := ?_) rfl rfl (by kernel_rfl) (by kernel_rfl) (by kernel_rfl) (by kernel_rfl) (fun _ _ _ h => h) (Or.inl ⟨by rfl, ?_⟩) (by assumption) (fun hT => ?_)
  rotate_left
  · intro w hSw
    (try dsimp only at hSw)
    go_simp
    (try with_reducible rfl)
  (try simp only [Act.put, List.setIfInBounds_toArray, List.set_cons_zero, List.set_cons_succ])
  refine wpAnyG_take1d (i := 3) (v := ?_) rfl rfl (by kernel_rfl) (by kernel_rfl) (by kernel_rfl) (by kernel_rfl) (fun _ _ _ h => h) (Or.inl ⟨by rfl, ?_⟩) (by assumption) (fun hT => ?_)
  rotate_left
  · intro w hSw
    (try dsimp only at hSw)
    go_simp
    (try with_reducible rfl)
  (try simp only [Act.put, List.setIfInBounds_toArray, List.set_cons_zero, List.set_cons_succ])
  refine wpAnyG_take1d (i := 4) (v := ?_) rfl rfl (by kernel_rfl) (by kernel_rfl) (by kernel_rfl) (by kernel_rfl) (fun _ _ _ h => h) (Or.inl ⟨by rfl, ?_⟩) (by assumption) (fun hT => ?_)
  rotate_left
  · intro w hSw
    (try dsimp only at hSw)
    go_simp
    (rw [if_neg (by omega)])
    (try with_reducible rfl)
  (try simp only [Act.put, List.setIfInBounds_toArray, List.set_cons_zero, List.set_cons_succ])
  refine wpAnyG_take1d (i := 5) (v := ?_) rfl rfl (by kernel_rfl) (by kernel_rfl) (by kernel_rfl) (by kernel_rfl) (fun _ _ _ h => h) (Or.inl ⟨by rfl, ?_⟩) (by assumption) (fun hT => ?_)
  rotate_left
  · intro w hSw
    (try dsimp only at hSw)
    go_simp
    (try with_reducible rfl)
  (try simp only [Act.put, List.setIfInBounds_toArray, List.set_cons_zero, List.set_cons_succ])
  refine wpAnyG_take1d (i := 6) (v := ?_) rfl rfl (by kernel_rfl) (by kernel_rfl) (by kernel_rfl) (by kernel_rfl) (fun _ _ _ h => h) (Or.inl ⟨by rfl, ?_⟩) (by assumption) (fun hT => ?_)
  rotate_left
  · intro w hSw
    (try dsimp only at hSw)
    go_simp
    (try with_reducible rfl)
  (try simp only [Act.put, List.setIfInBounds_toArray, List.set_cons_zero, List.set_cons_succ])
  refine wpAnyG_take1d (i := 7) (v := ?_) rfl rfl (by kernel_rfl) (by kernel_rfl) (by kernel_rfl) (by kernel_rfl) (fun _ _ _ h => h) (Or.inl ⟨by rfl, ?_⟩) (by assumption) (fun hT => ?_)
  rotate_left
  · intro w hSw
    (try dsimp only at hSw)
    go_simp
    (try with_reducible rfl)
  (try simp only [Act.put, List.setIfInBounds_toArray, List.set_cons_zero, List.set_cons_succ])
  refine wpAnyG_take1d (i := 8) (v := ?_) rfl rfl (by kernel_rfl) (by kernel_rfl) (by kernel_rfl) (by kernel_rfl) (fun _ _ _ h => h) (Or.inl ⟨by rfl, ?_⟩) (by assumption) (fun hT => ?_)
  rotate_left
  · intro w hSw
    (try dsimp only at hSw)
    go_simp
    (try with_reducible rfl)
  (try simp only [Act.put, List.setIfInBounds_toArray, List.set_cons_zero, List.set_cons_succ])
  refine wpAnyG_take1d (i := 9) (v := ?_) rfl rfl (by kernel_rfl) (by kernel_rfl) (by kernel_rfl) (by kernel_rfl) (fun _ _ _ h => h) (Or.inl ⟨by rfl, ?_⟩) (by assumption) (fun hT => ?_)
  rotate_left
  · intro w hSw
    (try dsimp only at hSw)
    go_simp
    (try with_reducible rfl)
  (try simp only [Act.put, List.setIfInBounds_toArray, List.set_cons_zero, List.set_cons_succ])
  refine wpAnyG_take1d (i := 10) (v := ?_) rfl rfl (by kernel_rfl) (by kernel_rfl) (by kernel_rfl) (by kernel_rfl) (fun _ _ _ h => h) (Or.inl ⟨by rfl, ?_⟩) (by assumption) (fun hT => ?_)
  rotate_left
  · intro w hSw
    (try dsimp only at hSw)
    go_simp
    (try with_reducible rfl)
  (try simp only [Act.put, List.setIfInBounds_toArray, List.set_cons_zero, List.set_cons_succ])
  refine wpAnyG_ready (rs := [11]) (by kernel_rfl) (by simp) ?_
  refine AllG.cons (i := 11) rfl (fun K hK => ?_) AllG.nil
  go_simp
  go_at_call 116
  (with_reducible refine (HSK2.out _ HB5.out).mono ?_)
  rintro e w6 ⟨rfl, hb⟩
  have HQ6 := Lib.hid (HQ5.out.later hb)
  have HB6 := Lib.hid (HB5.out.trans (hb.mono HB5.out.size))
  have HC6 := Lib.hid (HC5.out.next (Chg.of hb [q]))
  have HR6 := Lib.hid (HR5.out.later hb)
  clear hb HQ5 HB5 HC5 HR5
  refine hK.out _ _ ⟨trivial, .inr trivial⟩ (fun hT => ?_)
  clear hK K
  (try simp only [Act.put, List.setIfInBounds_toArray, List.set_cons_zero, List.set_cons_succ])
  refine wpAnyG_take1d (i := 12) (v := ?_) rfl rfl (by kernel_rfl) (by kernel_rfl) (by kernel_rfl) (by kernel_rfl) (fun _ _ _ h => h) (Or.inl ⟨by rfl, ?_⟩) (by assumption) (fun hT => ?_)
  rotate_left
  · intro w hSw
    (try dsimp only at hSw)
    go_simp
    (try with_reducible rfl)
  (try simp only [Act.put, List.setIfInBounds_toArray, List.set_cons_zero, List.set_cons_succ])
  refine wpAnyG_take1d (i := 13) (v := ?_) rfl rfl (by kernel_rfl) (by kernel_rfl) (by kernel_rfl) (by kernel_rfl) (fun _ _ _ h => h) (Or.inl ⟨by rfl, ?_⟩) (by assumption) (fun hT => ?_)
  rotate_left
  · intro w hSw
    (try dsimp only at hSw)
    go_simp
    (try with_reducible rfl)
  (try simp only [Act.put, List.setIfInBounds_toArray, List.set_cons_zero, List.set_cons_succ])
  refine wpAnyG_take1d (i := 14) (v := ?_) rfl rfl (by kernel_rfl) (by kernel_rfl) (by kernel_rfl) (by kernel_rfl) (fun _ _ _ h => h) (Or.inl ⟨by rfl, ?_⟩) (by assumption) (fun hT => ?_)
  rotate_left
  · intro w hSw
    (try dsimp only at hSw)
    go_simp
    (rw [if_neg (by omega)])
    (try with_reducible rfl)
  (try simp only [Act.put, List.setIfInBounds_toArray, List.set_cons_zero, List.set_cons_succ])
  refine wpAnyG_ready (rs := [15]) (by kernel_rfl) (by simp) ?_
  refine AllG.cons (i := 15) rfl (fun K hK => ?_) AllG.nil
  go_simp
  go_at_call 7
  (with_reducible refine (HTX.out _ HB6.out).mono ?_)
  rintro e w7 ⟨rfl, hb⟩
  have HQ7 := Lib.hid (HQ6.out.later hb)
  have HB7 := Lib.hid (HB6.out.trans (hb.mono HB6.out.size))
  have HC7 := Lib.hid (HC6.out.next (Chg.of hb [q]))
  have HR7 := Lib.hid (HR6.out.later hb)
  clear hb HQ6 HB6 HC6 HR6
  obtain ⟨f0, f1, f2, f3, f4, f5, f6, f7, f8⟩ := HR7.out.ninef
  obtain ⟨z0, z1, z2, z3, z4, z5, z6, z7, z8⟩ := HR7.out.nine
  refine hK.out _ _ ⟨trivial, .inr trivial⟩ (fun hT => ?_)
  clear hK K
  (try simp only [Act.put, List.setIfInBounds_toArray, List.set_cons_zero, List.set_cons_succ])
  refine wpAnyG_ready (rs := [16]) (by kernel_rfl) (by simp) ?_
  refine AllG.cons (i := 16) rfl (fun K hK => ?_) AllG.nil
  go_simp
  refine hK.out _ _ ⟨trivial, .inr trivial⟩ (fun hT => ?_)
  clear hK K
  (try simp only [Act.put, List.setIfInBounds_toArray, List.set_cons_zero, List.set_cons_succ])
  refine wpAnyG_done (by kernel_rfl) ?_ _
  go_upto_region 99 with fail
  clear f0 f1 f2 f3 f4 f5 f6 f7 f8 z0 z1 z2 z3 z4 z5 z6 z7 z8
  obtain ⟨q0, q1, q2, q3, q4, q5, q6, q7, q8⟩ := (HR7.out.nine_set (.int .i64 2) (.string ⟨#[]⟩) (.string ⟨#[]⟩) (.string (tx cs)) (.bool false) (.int .i64 0) (.int .i64 0) (.int .i64 0) (.slice none 0 0)).1.nine
  have hcn := chg_nine w7 r (.int .i64 2) (.string ⟨#[]⟩) (.string ⟨#[]⟩) (.string (tx cs)) (.bool false) (.int .i64 0) (.int .i64 0) (.int .i64 0) (.slice none 0 0)
  refine bodyPost_ret (v := .agg #[.int .i64 2, .string ⟨#[]⟩, .string ⟨#[]⟩, .string (tx cs), .bool false, .int .i64 0, .int .i64 0, .int .i64 0, .slice none 0 0]) (by simp [results, Tryz.results68, go_sem, q0, q1, q2, q3, q4, q5, q6, q7, q8]) rfl ⟨rfl, HC7.out.trans (hcn.mono HC7.out.size fun x hx => .inr (by
    rw [List.mem_singleton.1 hx, HH.out]
    exact Nat.le_refl _))⟩
set_option maxRecDepth 100000 in
set_option maxHeartbeats 4000000 in
/-- EXACT. -/
theorem fExa_any (W0 W : World) (q : Nat) (A : Option Addr) (c : Nat) (cs : List (List UInt8)) (hcs : ChsOk cs) (hsz : (tx cs).size ≤ 32767) (he : VEnv W0) (h0 : Below W0.heap.size W0 W) (hq0 : W0.heap.size ≤ q) (hq : Blk W q 120 #[.slice A 2 c, .int .i64 0]) (hA : Reads 9 csV W0 (.slice A 2 c) [tV (tx cs), tV (tx cs)]) :
    Calls Tryz.prog 63 #[.pointer (some ⟨q, 0, none⟩)] W (ResV (bV true) q W) := by
  have ht := txtE_chs hcs hsz
  have hl := len_size hcs
  have HT0 := Lib.hid (show ∀ W', Below W0.heap.size W0 W' → Blk W' q 120 #[.slice A 2 c, .int .i64 ((0 : Nat) : Int)] → Calls Tryz.prog 53 #[.pointer (some ⟨q, 0, none⟩)] W' fun e w' => e = .returned (.string (tx cs)) ∧ Blk w' q 120 #[.slice A 2 c, .int .i64 ((1 : Nat) : Int)] ∧ Below W0.heap.size W0 w' ∧ Chg W'.heap.size [q] W' w' from fun W' h1 h2 => text_b W0 W' q A 2 c 0 (tx cs) [tV (tx cs), tV (tx cs)] h1 hq0 h2 hA (by decide) (by decide) rfl he ht)
  have HT1 := Lib.hid (show ∀ W', Below W0.heap.size W0 W' → Blk W' q 120 #[.slice A 2 c, .int .i64 ((1 : Nat) : Int)] → Calls Tryz.prog 53 #[.pointer (some ⟨q, 0, none⟩)] W' fun e w' => e = .returned (.string (tx cs)) ∧ Blk w' q 120 #[.slice A 2 c, .int .i64 ((2 : Nat) : Int)] ∧ Below W0.heap.size W0 w' ∧ Chg W'.heap.size [q] W' w' from fun W' h1 h2 => text_b W0 W' q A 2 c 1 (tx cs) [tV (tx cs), tV (tx cs)] h1 hq0 h2 hA (by decide) (by decide) rfl he ht)
  have HBO := Lib.hid (show ∀ W', Below W0.heap.size W0 W' → Calls Tryz.prog 13 #[.bool true] W' fun e w' => e = .returned (.agg #[.int .i64 3, .string ⟨#[]⟩, .string ⟨#[]⟩, .string ⟨#[]⟩, .bool true, .int .i64 0, .int .i64 0, .int .i64 0, .slice none 0 0]) ∧ Below W'.heap.size W' w' from fun W' _ => bool_x true W')
  have hql := hq.lt
  obtain ⟨r, hr⟩ : ∃ r, r = W.heap.size := ⟨_, rfl⟩
  have HR0 := Lib.hid (Blk.new W 26 #[.int .i64 0, .string ⟨#[]⟩, .string ⟨#[]⟩, .string ⟨#[]⟩, .bool false, .int .i64 0, .int .i64 0, .int .i64 0, .slice none 0 0])
  rw [← hr] at HR0
  have HTQ := Lib.hid (show r ∉ [q] from by rw [List.mem_singleton]; omega)
  have HQ0 := Lib.hid (show Blk (W.alloc (.cells #[.int .i64 0, .string ⟨#[]⟩, .string ⟨#[]⟩, .string ⟨#[]⟩, .bool false, .int .i64 0, .int .i64 0, .int .i64 0, .slice none 0 0] 26)) q 120 #[.slice A 2 c, .int .i64 ((0 : Nat) : Int)] from hq.alloc _)
  have HB0 := Lib.hid (h0.trans ((below_al W (.cells #[.int .i64 0, .string ⟨#[]⟩, .string ⟨#[]⟩, .string ⟨#[]⟩, .bool false, .int .i64 0, .int .i64 0, .int .i64 0, .slice none 0 0] 26)).mono h0.size))
  have HC0 := Lib.hid (Chg.of (below_al W (.cells #[.int .i64 0, .string ⟨#[]⟩, .string ⟨#[]⟩, .string ⟨#[]⟩, .bool false, .int .i64 0, .int .i64 0, .int .i64 0, .slice none 0 0] 26)) [q])
  have HH := Lib.hid hr
  clear h0 hq hA he hql
  go_enter Tryz.func63, Tryz.ntmps63
  go_upto_region 1 with fail
  rw [← hr]
  clear hr
  revert HR0 HQ0 HB0 HC0
  generalize W.alloc (.cells #[.int .i64 0, .string ⟨#[]⟩, .string ⟨#[]⟩, .string ⟨#[]⟩, .bool false, .int .i64 0, .int .i64 0, .int .i64 0, .slice none 0 0] 26) = w0
  intro HR0 HQ0 HB0 HC0
  go_upto_region 99 with (first
    | (go_at_call 53; (with_reducible refine (HT0.out _ HB0.out HQ0.out).mono ?_); rintro e w1 ⟨rfl, hq1, hb, hc⟩; have HQ1 := Lib.hid hq1; have HB1 := Lib.hid hb; have HC1 := Lib.hid (HC0.out.next hc); have HR1 := Lib.hid (hc.blk HR0.out HR0.out.lt HTQ.out); clear hq1 hb hc HQ0 HB0 HC0 HR0)
    | (go_at_call 53; (with_reducible refine (HT1.out _ HB1.out HQ1.out).mono ?_); rintro e w2 ⟨rfl, hq1, hb, hc⟩; have HQ2 := Lib.hid hq1; have HB2 := Lib.hid hb; have HC2 := Lib.hid (HC1.out.next hc); have HR2 := Lib.hid (hc.blk HR1.out HR1.out.lt HTQ.out); clear hq1 hb hc HQ1 HB1 HC1 HR1)
    | (go_at_call 13; (with_reducible refine (HBO.out _ HB2.out).mono ?_); rintro e w3 ⟨rfl, hb⟩; have HQ3 := Lib.hid (HQ2.out.later hb); have HB3 := Lib.hid (HB2.out.trans (hb.mono HB2.out.size)); have HC3 := Lib.hid (HC2.out.next (Chg.of hb [q])); have HR3 := Lib.hid (HR2.out.later hb); clear hb HQ2 HB2 HC2 HR2; obtain ⟨f0, f1, f2, f3, f4, f5, f6, f7, f8⟩ := HR3.out.ninef; obtain ⟨z0, z1, z2, z3, z4, z5, z6, z7, z8⟩ := HR3.out.nine))
  clear f0 f1 f2 f3 f4 f5 f6 f7 f8 z0 z1 z2 z3 z4 z5 z6 z7 z8
  obtain ⟨q0, q1, q2, q3, q4, q5, q6, q7, q8⟩ := (HR3.out.nine_set (.int .i64 3) (.string ⟨#[]⟩) (.string ⟨#[]⟩) (.string ⟨#[]⟩) (.bool true) (.int .i64 0) (.int .i64 0) (.int .i64 0) (.slice none 0 0)).1.nine
  have hcn := chg_nine w3 r (.int .i64 3) (.string ⟨#[]⟩) (.string ⟨#[]⟩) (.string ⟨#[]⟩) (.bool true) (.int .i64 0) (.int .i64 0) (.int .i64 0) (.slice none 0 0)
  refine bodyPost_ret (v := .agg #[.int .i64 3, .string ⟨#[]⟩, .string ⟨#[]⟩, .string ⟨#[]⟩, .bool true, .int .i64 0, .int .i64 0, .int .i64 0, .slice none 0 0]) (by simp [results, Tryz.results63, go_sem, q0, q1, q2, q3, q4, q5, q6, q7, q8]) rfl ⟨rfl, HC3.out.trans (hcn.mono HC3.out.size fun x hx => .inr (by
    rw [List.mem_singleton.1 hx, HH.out]
    exact Nat.le_refl _))⟩
end Go.Proofs.YtcnlonaighlmbaaGreatDoor
