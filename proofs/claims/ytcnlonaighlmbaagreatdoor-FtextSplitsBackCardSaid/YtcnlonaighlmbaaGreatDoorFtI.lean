/- ftext.find with strings.HasPrefix. -/
import Derived.Test.YtcnlonaighlmbaaGreatDoorFtX
import Derived.Test.YtcnlonaighlmbaaGreatDoorFtSa
import Derived.Test.YtcnlonaighlmbaaGreatDoorFtN
import Derived.Test.YtcnlonaighlmbaaGreatDoorFtJ
set_option linter.unusedSimpArgs false
set_option linter.unusedVariables false
namespace Go.Proofs.YtcnlonaighlmbaaGreatDoor
open Go.RowKit

/-- What find does: a number, or a stop. -/
def FindR (cs ds : List (List UInt8)) (q : Nat) (W : World) (e : Ending) (w' : World) : Prop :=
  (∃ n, n ≤ cs.length ∧ atC cs ds n = true ∧ (∀ m, m < n → atC cs ds m = false) ∧ ResV (nV (n + 1)) q W e w') ∨ ((∀ m, m ≤ cs.length → atC cs ds m = false) ∧ PanP 2 W [q] e w')
theorem hp_c (cs ds : List (List UInt8)) (i : Nat) (W : World) (b : Bool) (hb : atC cs ds i = b) : Calls Tryz.prog 15 #[.string (tx (cs.drop i)), .string (tx ds)] W fun e w' => e = .returned (.bool b) ∧ w' = W := by
  have h := Tryz.strings_HasPrefix (tx (cs.drop i)) (tx ds) W
  rw [tx_data, tx_data] at h
  rw [← hb]
  exact h
theorem tx_nil_iff {cs : List (List UInt8)} (h : ChsOk cs) {i : Nat} (hi : i < cs.length) : ¬ tx (cs.drop i) = ⟨#[]⟩ := fun e => by
  have h1 := skB_lt h hi
  have h2 := congrArg ByteArray.size e
  rw [← tx_drop, Lib.size_rest] at h2
  have h3 : (⟨#[]⟩ : ByteArray).size = 0 := rfl
  omega
theorem tx_nil_l {cs : List (List UInt8)} (h : ChsOk cs) {i : Nat} (hi : i < cs.length) : ¬ (tx (cs.drop i)).toList = [] := fun e => tx_nil_iff h hi (by
  rw [Lib.toList_data, tx_data] at e
  rw [tx, e])
set_option maxRecDepth 100000 in
set_option maxHeartbeats 8000000 in
theorem find_any (W0 W : World) (q : Nat) (A : Option Addr) (c : Nat) (cs ds : List (List UInt8)) (hcs : ChsOk cs) (hds : ChsOk ds) (hsz : (tx cs).size ≤ 32767) (hsd : (tx ds).size ≤ 32767) (he : VEnv W0) (h0 : Below W0.heap.size W0 W) (hq0 : W0.heap.size ≤ q) (hq : Blk W q 120 #[.slice A 2 c, .int .i64 0]) (hA : Reads 9 csV W0 (.slice A 2 c) [tV (tx ds), tV (tx cs)]) :
    Calls Tryz.prog 65 #[.pointer (some ⟨q, 0, none⟩), .func (.func 15) #[] #[]] W (FindR cs ds q W) := by
  have ht := txtE_chs hcs hsz
  have hd := txtE_chs hds hsd
  have hl := len_size hcs
  have HT0 := Lib.hid (show ∀ W', Below W0.heap.size W0 W' → Blk W' q 120 #[.slice A 2 c, .int .i64 ((0 : Nat) : Int)] → Calls Tryz.prog 53 #[.pointer (some ⟨q, 0, none⟩)] W' fun e w' => e = .returned (.string (tx ds)) ∧ Blk w' q 120 #[.slice A 2 c, .int .i64 ((1 : Nat) : Int)] ∧ Below W0.heap.size W0 w' ∧ Chg W'.heap.size [q] W' w' from fun W' h1 h2 => text_b W0 W' q A 2 c 0 (tx ds) [tV (tx ds), tV (tx cs)] h1 hq0 h2 hA (by decide) (by decide) rfl he hd)
  have HT1 := Lib.hid (show ∀ W', Below W0.heap.size W0 W' → Blk W' q 120 #[.slice A 2 c, .int .i64 ((1 : Nat) : Int)] → Calls Tryz.prog 53 #[.pointer (some ⟨q, 0, none⟩)] W' fun e w' => e = .returned (.string (tx cs)) ∧ Blk w' q 120 #[.slice A 2 c, .int .i64 ((2 : Nat) : Int)] ∧ Below W0.heap.size W0 w' ∧ Chg W'.heap.size [q] W' w' from fun W' h1 h2 => text_b W0 W' q A 2 c 1 (tx cs) [tV (tx ds), tV (tx cs)] h1 hq0 h2 hA (by decide) (by decide) rfl he ht)
  have HWO := Lib.hid fun W' (h2 : Blk W' q 120 #[.slice A 2 c, .int .i64 ((2 : Nat) : Int)]) => wor_0 1 q A 2 c W' h2
  have HRC := Lib.hid fun W' (_ : Below W0.heap.size W0 W') => count_c cs hcs hsz W'
  have HS0 := Lib.hid (show ∀ W', Below W0.heap.size W0 W' → Calls Tryz.prog 116 #[.string (tx cs), .int .i64 0] W' fun e w' => e = .returned (.int .i64 0) ∧ Below W'.heap.size W' w' from fun W' h1 => skip_c cs hcs hsz 0 (by omega) W' (he.below h1))
  have HS1 := Lib.hid (show ∀ i W', Below W0.heap.size W0 W' → Calls Tryz.prog 116 #[.string (tx (cs.drop i)), .int .i64 1] W' fun e w' => e = .returned (.int .i64 ((skB (cs.drop i) 1 : Nat) : Int)) ∧ Below W'.heap.size W' w' from fun i W' h1 => skip_c (cs.drop i) (hcs.drop i) (Nat.le_trans (tx_drop_le cs i) hsz) 1 (by omega) W' (he.below h1))
  have HWH := Lib.hid (show ∀ i W', i ≤ cs.length → Below W0.heap.size W0 W' → Calls Tryz.prog 22 #[.int .i64 ((i : Int) + 1)] W' fun e w' => e = .returned (.agg #[.int .i64 1, .string (nt (i + 1)), .string ⟨#[49]⟩, .string ⟨#[]⟩, .bool false, .int .i64 0, .int .i64 0, .int .i64 0, .slice none 0 0]) ∧ Below W'.heap.size W' w' from fun i W' hi h1 => whole_t (i + 1) W' (by omega) (Lib.tabBelow_of_tabIs he.pw W' h1))
  have HCS := Lib.hid hcs
  have hql := hq.lt
  obtain ⟨r, hr⟩ : ∃ r, r = W.heap.size := ⟨_, rfl⟩
  have HR0 := Lib.hid (Blk.new W 26 #[.int .i64 0, .string ⟨#[]⟩, .string ⟨#[]⟩, .string ⟨#[]⟩, .bool false, .int .i64 0, .int .i64 0, .int .i64 0, .slice none 0 0])
  rw [← hr] at HR0
  have HTQ := Lib.hid (show r ∉ [q] from by rw [List.mem_singleton]; omega)
  have HQ0 := Lib.hid (show Blk (W.alloc (.cells #[.int .i64 0, .string ⟨#[]⟩, .string ⟨#[]⟩, .string ⟨#[]⟩, .bool false, .int .i64 0, .int .i64 0, .int .i64 0, .slice none 0 0] 26)) q 120 #[.slice A 2 c, .int .i64 ((0 : Nat) : Int)] from hq.alloc _)
  have HB0 := Lib.hid (h0.trans ((below_al W (.cells #[.int .i64 0, .string ⟨#[]⟩, .string ⟨#[]⟩, .string ⟨#[]⟩, .bool false, .int .i64 0, .int .i64 0, .int .i64 0, .slice none 0 0] 26)).mono h0.size))
  have HC0 := Lib.hid (Chg.of (below_al W (.cells #[.int .i64 0, .string ⟨#[]⟩, .string ⟨#[]⟩, .string ⟨#[]⟩, .bool false, .int .i64 0, .int .i64 0, .int .i64 0, .slice none 0 0] 26)) [q])
  have HH := Lib.hid hr
  have HLN := Lib.hid (show cs.length ≤ 32767 from by omega)
  clear h0 hq hA he hql ht hd hl
  obtain ⟨N, hNN⟩ : ∃ N, N = cs.length := ⟨_, rfl⟩
  rw [← hNN] at HLN HRC HWH
  have HNN := Lib.hid hNN
  have hN := HLN.out
  clear hNN
  go_enter Tryz.func65, Tryz.ntmps65
  go_upto_region 1 with fail
  rw [← hr]
  clear hr
  revert HR0 HQ0 HB0 HC0
  generalize W.alloc (.cells #[.int .i64 0, .string ⟨#[]⟩, .string ⟨#[]⟩, .string ⟨#[]⟩, .bool false, .int .i64 0, .int .i64 0, .int .i64 0, .slice none 0 0] 26) = w0
  intro HR0 HQ0 HB0 HC0
  have hn0 : ¬ ((N : Int) + 1 < 1) := by omega
  go_upto_block 0 with (first
    | (go_at_call 53; (with_reducible refine (HT0.out _ HB0.out HQ0.out).mono ?_); rintro e w1 ⟨rfl, hq1, hb, hc⟩; have HQ1 := Lib.hid hq1; have HB1 := Lib.hid hb; have HC1 := Lib.hid (HC0.out.next hc); have HR1 := Lib.hid (hc.blk HR0.out HR0.out.lt HTQ.out); clear hq1 hb hc HQ0 HB0 HC0 HR0)
    | (go_at_call 53; (with_reducible refine (HT1.out _ HB1.out HQ1.out).mono ?_); rintro e w2 ⟨rfl, hq1, hb, hc⟩; have HQ2 := Lib.hid hq1; have HB2 := Lib.hid hb; have HC2 := Lib.hid (HC1.out.next hc); have HR2 := Lib.hid (hc.blk HR1.out HR1.out.lt HTQ.out); clear hq1 hb hc HQ1 HB1 HC1 HR1)
    | (go_at_call 114; (with_reducible refine (HWO.out _ HQ2.out).mono ?_); rintro e w3 ⟨rfl, hb⟩; have HQ3 := Lib.hid (HQ2.out.later hb); have HB3 := Lib.hid (HB2.out.trans (hb.mono HB2.out.size)); have HC3 := Lib.hid (HC2.out.next (Chg.of hb [q])); have HR3 := Lib.hid (HR2.out.later hb); clear hb HQ2 HB2 HC2 HR2)
    | (go_at_call 52; (with_reducible refine (HRC.out _ HB3.out).mono ?_); rintro e w4 ⟨rfl, hb⟩; have HQ4 := Lib.hid (HQ3.out.later hb); have HB4 := Lib.hid (HB3.out.trans (hb.mono HB3.out.size)); have HC4 := Lib.hid (HC3.out.next (Chg.of hb [q])); have HR4 := Lib.hid (HR3.out.later hb); clear hb HQ3 HB3 HC3 HR3)
    | (go_at_call 115; (with_reducible refine (wrong_b (by simp <;> omega) _).mono ?_); rintro e w4s ⟨rfl, rfl⟩)
    | (go_at_call 116; (with_reducible refine (HS0.out _ HB4.out).mono ?_); rintro e w5 ⟨rfl, hb⟩; have HQ5 := Lib.hid (HQ4.out.later hb); have HB5 := Lib.hid (HB4.out.trans (hb.mono HB4.out.size)); have HC5 := Lib.hid (HC4.out.next (Chg.of hb [q])); have HR5 := Lib.hid (HR4.out.later hb); clear hb HQ4 HB4 HC4 HR4))
  go_wp2_with fail
  go_loopw [6, 7] (fun u6 u7 wr => ∃ i : Nat, i ≤ N ∧ u6 = .string (tx (cs.drop i)) ∧ u7 = .int .i64 ((i : Int) + 1) ∧ Hid (∀ m, m < i → atC cs ds m = false) ∧ Hid (Below W0.heap.size W0 wr) ∧ Hid (Chg W.heap.size [q] W wr) ∧ Hid (Blk wr r 26 #[.int .i64 0, .string ⟨#[]⟩, .string ⟨#[]⟩, .string ⟨#[]⟩, .bool false, .int .i64 0, .int .i64 0, .int .i64 0, .slice none 0 0])) (fun _ u7 _ => N + 1 - (intOf u7).toNat)
  case atStart => exact ⟨0, Nat.zero_le _, by rfl, rfl, Lib.hid (fun m hm => absurd hm (by omega)), HB5, HC5, HR5⟩
  case round =>
    clear HB5 HC5 HR5 HQ5
    obtain ⟨i, hi, rfl, rfl, HMI, HB, HC, HRr⟩ := hrel
    cases hat : atC cs ds i with
    | true =>
      have HHP := Lib.hid (hp_c cs ds i wr true hat)
      have HAT := Lib.hid hat
      clear hat
      go_upto_region 99 with (first
        | (go_at_call 15; (with_reducible refine HHP.out.mono ?_); rintro e w1 ⟨rfl, rfl⟩)
        | (go_at_call 22; (with_reducible refine (HWH.out i _ hi HB.out).mono ?_); rintro e w2 ⟨rfl, hb⟩; have HC2 := Lib.hid (HC.out.next (Chg.of hb [q])); have HR2 := Lib.hid (HRr.out.later hb); clear hb HC HRr; obtain ⟨f0, f1, f2, f3, f4, f5, f6, f7, f8⟩ := HR2.out.ninef; obtain ⟨z0, z1, z2, z3, z4, z5, z6, z7, z8⟩ := HR2.out.nine))
      clear f0 f1 f2 f3 f4 f5 f6 f7 f8 z0 z1 z2 z3 z4 z5 z6 z7 z8
      obtain ⟨q0, q1, q2, q3, q4, q5, q6, q7, q8⟩ := (HR2.out.nine_set (.int .i64 1) (.string (nt (i + 1))) (.string ⟨#[49]⟩) (.string ⟨#[]⟩) (.bool false) (.int .i64 0) (.int .i64 0) (.int .i64 0) (.slice none 0 0)).1.nine
      have hcn := chg_nine w2 r (.int .i64 1) (.string (nt (i + 1))) (.string ⟨#[49]⟩) (.string ⟨#[]⟩) (.bool false) (.int .i64 0) (.int .i64 0) (.int .i64 0) (.slice none 0 0)
      refine bodyPost_ret (v := .agg #[.int .i64 1, .string (nt (i + 1)), .string ⟨#[49]⟩, .string ⟨#[]⟩, .bool false, .int .i64 0, .int .i64 0, .int .i64 0, .slice none 0 0]) (by simp [results, Tryz.results65, go_sem, q0, q1, q2, q3, q4, q5, q6, q7, q8]) rfl (.inl ⟨i, by rw [← HNN.out]; exact hi, HAT.out, HMI.out, rfl, HC2.out.trans (hcn.mono HC2.out.size fun x hx => .inr (by
        rw [List.mem_singleton.1 hx, HH.out]
        exact Nat.le_refl _))⟩)
    | false =>
      have HHP := Lib.hid (hp_c cs ds i wr false hat)
      have HMI2 := Lib.hid (show ∀ m, m < i + 1 → atC cs ds m = false from fun m hm => by
        rcases Nat.lt_or_ge m i with h | h
        · exact HMI.out m h
        · rw [show m = i by omega]
          exact hat)
      clear hat HMI
      by_cases hlt : i < N
      · have hne := tx_nil_l HCS.out (i := i) (by rw [← HNN.out]; exact hlt)
        have hk1 := skB_le (cs.drop i) 1
        have HDD := Lib.hid (show (tx (cs.drop i)).extract (skB (cs.drop i) 1) (tx (cs.drop i)).size = tx (cs.drop (i + 1)) from by rw [tx_drop, List.drop_drop])
        go_wp2_with (first
          | (go_at_call 15; (with_reducible refine HHP.out.mono ?_); rintro e w1 ⟨rfl, rfl⟩)
          | (go_at_call 115; (with_reducible refine (wrong_b (by simp [hne]) _).mono ?_); rintro e w2 ⟨rfl, rfl⟩)
          | (go_at_call 116; (with_reducible refine (HS1.out i _ HB.out).mono ?_); rintro e w3 ⟨rfl, hb⟩; have HB3 := Lib.hid (HB.out.trans (hb.mono HB.out.size)); have HC3 := Lib.hid (HC.out.next (Chg.of hb [q])); have HR3 := Lib.hid (HRr.out.later hb); clear hb HB HC HRr))
        go_roundw
        case rel => exact ⟨i + 1, by omega, by rw [HDD.out], by go_num, HMI2, HB3, HC3, HR3⟩
        case measure => simp [intOf]; omega
      · obtain rfl : i = N := by omega
        have hne : tx (cs.drop i) = ⟨#[]⟩ := by
          rw [List.drop_of_length_le (by rw [← HNN.out]; exact Nat.le_refl _)]
          rfl
        have HNE := Lib.hid hne
        clear hne
        go_wp2_with (first
          | (go_at_call 15; (with_reducible refine HHP.out.mono ?_); rintro e w1 ⟨rfl, rfl⟩)
          | (go_at_call 115; (with_reducible refine (wrong_q (by first | exact decide_eq_true HNE.out | exact beq_iff_eq.2 HNE.out | simp [HNE.out]) _).mono ?_); rintro e w2 ⟨rfl, rfl⟩))
        exact ⟨rfl, .inr ⟨fun m hm => HMI2.out m (by have := HNN.out; omega), rfl, HC.out⟩⟩
end Go.Proofs.YtcnlonaighlmbaaGreatDoor

set_option linter.unusedSimpArgs false
set_option linter.unusedVariables false
namespace Go.Proofs.YtcnlonaighlmbaaGreatDoor
open Go.RowKit

theorem findR_y {cs ds : List (List UInt8)} {q n : Nat} {W w' : World} {e : Ending} (h : FindR cs ds q W e w') (hn : n ≤ cs.length) (h1 : atC cs ds n = true) (h2 : ∀ m, m < n → atC cs ds m = false) : ResV (nV (n + 1)) q W e w' := by
  rcases h with ⟨n', hn', g1, g2, hr⟩ | ⟨g, -⟩
  · have e : n' = n := by
      rcases Nat.lt_trichotomy n n' with h | h | h
      · have := g2 n h
        rw [h1] at this
        cases this
      · exact h.symm
      · have := h2 n' h
        rw [g1] at this
        cases this
    subst e
    exact hr
  · have := g n hn
    rw [h1] at this
    cases this
theorem findR_n {cs ds : List (List UInt8)} {q : Nat} {W w' : World} {e : Ending} (h : FindR cs ds q W e w') (hno : ∀ m, m ≤ cs.length → atC cs ds m = false) : PanP 2 W [q] e w' := by
  rcases h with ⟨n', hn', g1, -⟩ | ⟨-, g⟩
  · have := hno n' hn'
    rw [g1] at this
    cases this
  · exact g

set_option maxRecDepth 100000 in
set_option maxHeartbeats 4000000 in
/-- FIND, where it is found. -/
theorem fFin_any (W0 W : World) (q : Nat) (A : Option Addr) (c : Nat) (cs ds : List (List UInt8)) (hcs : ChsOk cs) (hds : ChsOk ds) (hsz : (tx cs).size ≤ 32767) (hsd : (tx ds).size ≤ 32767) (n : Nat) (hn : n ≤ cs.length) (h1 : atC cs ds n = true) (h2 : ∀ m, m < n → atC cs ds m = false) (he : VEnv W0) (h0 : Below W0.heap.size W0 W) (hq0 : W0.heap.size ≤ q) (hq : Blk W q 120 #[.slice A 2 c, .int .i64 0]) (hA : Reads 9 csV W0 (.slice A 2 c) [tV (tx ds), tV (tx cs)]) :
    Calls Tryz.prog 64 #[.pointer (some ⟨q, 0, none⟩)] W (ResV (nV (n + 1)) q W) := by
  have HFD := Lib.hid (show ∀ W', Below W0.heap.size W0 W' → Blk W' q 120 #[.slice A 2 c, .int .i64 ((0 : Nat) : Int)] → Calls Tryz.prog 65 #[.pointer (some ⟨q, 0, none⟩), .func (.func 15) #[] #[]] W' fun e w' => e = .returned (.agg #[.int .i64 1, .string (nt (n + 1)), .string ⟨#[49]⟩, .string ⟨#[]⟩, .bool false, .int .i64 0, .int .i64 0, .int .i64 0, .slice none 0 0]) ∧ Chg W'.heap.size [q] W' w' from fun W' g1 g2 => (find_any W0 W' q A c cs ds hcs hds hsz hsd he g1 hq0 g2 hA).mono fun e w' h => findR_y h hn h1 h2)
  have hql := hq.lt
  obtain ⟨r, hr⟩ : ∃ r, r = W.heap.size := ⟨_, rfl⟩
  have HR0 := Lib.hid (Blk.new W 26 #[.int .i64 0, .string ⟨#[]⟩, .string ⟨#[]⟩, .string ⟨#[]⟩, .bool false, .int .i64 0, .int .i64 0, .int .i64 0, .slice none 0 0])
  rw [← hr] at HR0
  have HTQ := Lib.hid (show r ∉ [q] from by rw [List.mem_singleton]; omega)
  have HQ0 := Lib.hid (show Blk (W.alloc (.cells #[.int .i64 0, .string ⟨#[]⟩, .string ⟨#[]⟩, .string ⟨#[]⟩, .bool false, .int .i64 0, .int .i64 0, .int .i64 0, .slice none 0 0] 26)) q 120 #[.slice A 2 c, .int .i64 ((0 : Nat) : Int)] from hq.alloc _)
  have HB0 := Lib.hid (h0.trans ((below_al W (.cells #[.int .i64 0, .string ⟨#[]⟩, .string ⟨#[]⟩, .string ⟨#[]⟩, .bool false, .int .i64 0, .int .i64 0, .int .i64 0, .slice none 0 0] 26)).mono h0.size))
  have HC0 := Lib.hid (Chg.of (below_al W (.cells #[.int .i64 0, .string ⟨#[]⟩, .string ⟨#[]⟩, .string ⟨#[]⟩, .bool false, .int .i64 0, .int .i64 0, .int .i64 0, .slice none 0 0] 26)) [q])
  have HH := Lib.hid hr
  clear h0 hq hA he hql
  go_enter Tryz.func64, Tryz.ntmps64
  go_upto_region 1 with fail
  rw [← hr]
  clear hr
  revert HR0 HQ0 HB0 HC0
  generalize W.alloc (.cells #[.int .i64 0, .string ⟨#[]⟩, .string ⟨#[]⟩, .string ⟨#[]⟩, .bool false, .int .i64 0, .int .i64 0, .int .i64 0, .slice none 0 0] 26) = w0
  intro HR0 HQ0 HB0 HC0
  go_upto_region 99 with (go_at_call 65; (with_reducible refine (HFD.out _ HB0.out HQ0.out).mono ?_); rintro e w1 ⟨rfl, hc⟩; have HC1 := Lib.hid (HC0.out.next hc); have HR1 := Lib.hid (hc.blk HR0.out HR0.out.lt HTQ.out); clear hc HC0 HR0 HQ0 HB0; obtain ⟨f0, f1, f2, f3, f4, f5, f6, f7, f8⟩ := HR1.out.ninef; obtain ⟨z0, z1, z2, z3, z4, z5, z6, z7, z8⟩ := HR1.out.nine)
  clear f0 f1 f2 f3 f4 f5 f6 f7 f8 z0 z1 z2 z3 z4 z5 z6 z7 z8
  obtain ⟨q0, q1, q2, q3, q4, q5, q6, q7, q8⟩ := (HR1.out.nine_set (.int .i64 1) (.string (nt (n + 1))) (.string ⟨#[49]⟩) (.string ⟨#[]⟩) (.bool false) (.int .i64 0) (.int .i64 0) (.int .i64 0) (.slice none 0 0)).1.nine
  have hcn := chg_nine w1 r (.int .i64 1) (.string (nt (n + 1))) (.string ⟨#[49]⟩) (.string ⟨#[]⟩) (.bool false) (.int .i64 0) (.int .i64 0) (.int .i64 0) (.slice none 0 0)
  refine bodyPost_ret (v := .agg #[.int .i64 1, .string (nt (n + 1)), .string ⟨#[49]⟩, .string ⟨#[]⟩, .bool false, .int .i64 0, .int .i64 0, .int .i64 0, .slice none 0 0]) (by simp [results, Tryz.results64, go_sem, q0, q1, q2, q3, q4, q5, q6, q7, q8]) rfl ⟨rfl, HC1.out.trans (hcn.mono HC1.out.size fun x hx => .inr (by
    rw [List.mem_singleton.1 hx, HH.out]
    exact Nat.le_refl _))⟩

set_option maxRecDepth 100000 in
set_option maxHeartbeats 4000000 in
/-- FIND, where it is not found. -/
theorem fFin_no (W0 W : World) (q : Nat) (A : Option Addr) (c : Nat) (cs ds : List (List UInt8)) (hcs : ChsOk cs) (hds : ChsOk ds) (hsz : (tx cs).size ≤ 32767) (hsd : (tx ds).size ≤ 32767) (hno : ∀ m, m ≤ cs.length → atC cs ds m = false) (he : VEnv W0) (h0 : Below W0.heap.size W0 W) (hq0 : W0.heap.size ≤ q) (hq : Blk W q 120 #[.slice A 2 c, .int .i64 0]) (hA : Reads 9 csV W0 (.slice A 2 c) [tV (tx ds), tV (tx cs)]) :
    Calls Tryz.prog 64 #[.pointer (some ⟨q, 0, none⟩)] W (PanP 2 W [q]) := by
  have HFD := Lib.hid (show ∀ W', Below W0.heap.size W0 W' → Blk W' q 120 #[.slice A 2 c, .int .i64 ((0 : Nat) : Int)] → Calls Tryz.prog 65 #[.pointer (some ⟨q, 0, none⟩), .func (.func 15) #[] #[]] W' (PanP 2 W' [q]) from fun W' g1 g2 => (find_any W0 W' q A c cs ds hcs hds hsz hsd he g1 hq0 g2 hA).mono fun e w' h => findR_n h hno)
  have hql := hq.lt
  obtain ⟨r, hr⟩ : ∃ r, r = W.heap.size := ⟨_, rfl⟩
  have HR0 := Lib.hid (Blk.new W 26 #[.int .i64 0, .string ⟨#[]⟩, .string ⟨#[]⟩, .string ⟨#[]⟩, .bool false, .int .i64 0, .int .i64 0, .int .i64 0, .slice none 0 0])
  rw [← hr] at HR0
  have HTQ := Lib.hid (show r ∉ [q] from by rw [List.mem_singleton]; omega)
  have HQ0 := Lib.hid (show Blk (W.alloc (.cells #[.int .i64 0, .string ⟨#[]⟩, .string ⟨#[]⟩, .string ⟨#[]⟩, .bool false, .int .i64 0, .int .i64 0, .int .i64 0, .slice none 0 0] 26)) q 120 #[.slice A 2 c, .int .i64 ((0 : Nat) : Int)] from hq.alloc _)
  have HB0 := Lib.hid (h0.trans ((below_al W (.cells #[.int .i64 0, .string ⟨#[]⟩, .string ⟨#[]⟩, .string ⟨#[]⟩, .bool false, .int .i64 0, .int .i64 0, .int .i64 0, .slice none 0 0] 26)).mono h0.size))
  have HC0 := Lib.hid (Chg.of (below_al W (.cells #[.int .i64 0, .string ⟨#[]⟩, .string ⟨#[]⟩, .string ⟨#[]⟩, .bool false, .int .i64 0, .int .i64 0, .int .i64 0, .slice none 0 0] 26)) [q])
  have HH := Lib.hid hr
  clear h0 hq hA he hql HR0 HTQ HH
  go_enter Tryz.func64, Tryz.ntmps64
  go_wp2_with (go_at_call 65; (with_reducible refine (HFD.out _ HB0.out HQ0.out).mono ?_); rintro e w1 ⟨rfl, hc⟩; have HC1 := Lib.hid (HC0.out.next hc); clear hc)
  exact ⟨rfl, rfl, HC1.out⟩
/-- Does it stand at a byte? -/
def atB (cs ds : List (List UInt8)) (i : Nat) : Bool := Lib.hasPrefix (cs.flatten.drop i) ds.flatten
/-- The places of the first k bytes. -/
def plL (cs ds : List (List UInt8)) (k : Nat) : List Nat := (List.range k).filter (atB cs ds)
theorem plL_succ (cs ds : List (List UInt8)) (k : Nat) : plL cs ds (k + 1) = plL cs ds k ++ (if atB cs ds k then [k] else []) := by
  unfold plL
  rw [List.range_succ, List.filter_append]
  congr 1
  cases h : atB cs ds k <;> simp [h]
theorem plL_len (cs ds : List (List UInt8)) (k : Nat) : (plL cs ds k).length ≤ k := by
  have := List.length_filter_le (atB cs ds) (List.range k)
  rw [List.length_range] at this
  exact this
/-- The first place. -/
theorem plL_first {cs ds : List (List UInt8)} (hc : ChsOk cs) (hd : ChsOk ds) (hne : ds ≠ []) {n : Nat} (hn : n ≤ cs.length) (h1 : atC cs ds n = true) (h2 : ∀ m, m < n → atC cs ds m = false) : (plL cs ds (tx cs).size)[0]? = some (skB cs n) := by
  have hi := index_at hc hd hn h1 h2
  have hle : skB cs n ≤ cs.flatten.length := by
    have := skB_le cs n
    rw [tx_size] at this
    exact this
  rcases Lib.index_spec cs.flatten ds.flatten with ⟨h3, -⟩ | ⟨i, h3, h4, h5, h6⟩
  · rw [h3] at hi
    omega
  · have e : i = skB cs n := by rw [h3] at hi; omega
    subst e
    have h7 := (occ_at _ _ _).1 h5
    have hlt : skB cs n < (tx cs).size := by
      rw [tx_size]
      rcases Nat.lt_or_ge (skB cs n) cs.flatten.length with h | h
      · exact h
      · rw [List.drop_of_length_le h] at h7
        rcases ds with _ | ⟨d, ds⟩
        · exact absurd rfl hne
        · obtain ⟨b, t, rfl, -, -⟩ := ch_shape (hd d (List.mem_cons_self ..))
          simp at h7
    unfold plL
    rw [← List.head?_eq_getElem?, List.head?_filter, List.find?_range_eq_some]
    refine ⟨(pre_at _ _).2 h7, List.mem_range.2 hlt, fun j hj => ?_⟩
    cases hb : atB cs ds j with
    | false => rfl
    | true =>
      have := h6 j hj
      rw [(occ_at _ _ _).2 ((pre_at _ _).1 hb)] at this
      cases this
def iC (i : Nat) : List Value := [.int .i64 (i : Int)]
theorem iC_one (i : Nat) : (iC i).length = 1 ∧ ∀ x ∈ iC i, x.oneCell' = true := ⟨rfl, by simp [iC, Value.oneCell']⟩
theorem in_info : (Tryz.prog.info? 3).map (fun i => (i.zero, i.size, i.bytes)) = some (some (.int .i64 0), 1, 8) := by kernel_rfl
theorem hp_b (cs ds : List (List UInt8)) (i : Nat) (W : World) (b : Bool) (hb : atB cs ds i = b) : Calls Tryz.prog 15 #[.string ((tx cs).extract i (tx cs).size), .string (tx ds)] W fun e w' => e = .returned (.bool b) ∧ w' = W := by
  have h := Tryz.strings_HasPrefix ((tx cs).extract i (tx cs).size) (tx ds) W
  rw [extr_data, tx_data, tx_data] at h
  rw [← hb]
  exact h
set_option maxRecDepth 100000 in
set_option maxHeartbeats 8000000 in
/-- What is ahead of the first place. -/
theorem part_any (W0 W : World) (q : Nat) (A : Option Addr) (c : Nat) (cs ds : List (List UInt8)) (hcs : ChsOk cs) (hds : ChsOk ds) (hsz : (tx cs).size ≤ 32767) (hsd : (tx ds).size ≤ 32767) (hne : ds ≠ []) (n : Nat) (hn : n ≤ cs.length) (h1 : atC cs ds n = true) (h2 : ∀ m, m < n → atC cs ds m = false) (he : VEnv W0) (h0 : Below W0.heap.size W0 W) (hq0 : W0.heap.size ≤ q) (hq : Blk W q 120 #[.slice A 2 c, .int .i64 0]) (hA : Reads 9 csV W0 (.slice A 2 c) [tV (tx cs), tV (tx ds)]) :
    Calls Tryz.prog 85 #[.pointer (some ⟨q, 0, none⟩), .bool false] W (ResV (tV (tx (cs.take n))) q W) := by
  have ht := txtE_chs hcs hsz
  have hd := txtE_chs hds hsd
  have ht1 := txtE_chs (hcs.take n) (Nat.le_trans (tx_take_le cs n) hsz)
  have HT0 := Lib.hid (show ∀ W', Below W0.heap.size W0 W' → Blk W' q 120 #[.slice A 2 c, .int .i64 ((0 : Nat) : Int)] → Calls Tryz.prog 53 #[.pointer (some ⟨q, 0, none⟩)] W' fun e w' => e = .returned (.string (tx cs)) ∧ Blk w' q 120 #[.slice A 2 c, .int .i64 ((1 : Nat) : Int)] ∧ Below W0.heap.size W0 w' ∧ Chg W'.heap.size [q] W' w' from fun W' h1 h2 => text_b W0 W' q A 2 c 0 (tx cs) [tV (tx cs), tV (tx ds)] h1 hq0 h2 hA (by decide) (by decide) rfl he ht)
  have HT1 := Lib.hid (show ∀ W', Below W0.heap.size W0 W' → Blk W' q 120 #[.slice A 2 c, .int .i64 ((1 : Nat) : Int)] → Calls Tryz.prog 53 #[.pointer (some ⟨q, 0, none⟩)] W' fun e w' => e = .returned (.string (tx ds)) ∧ Blk w' q 120 #[.slice A 2 c, .int .i64 ((2 : Nat) : Int)] ∧ Below W0.heap.size W0 w' ∧ Chg W'.heap.size [q] W' w' from fun W' h1 h2 => text_b W0 W' q A 2 c 1 (tx ds) [tV (tx cs), tV (tx ds)] h1 hq0 h2 hA (by decide) (by decide) rfl he hd)
  have HWO := Lib.hid fun W' (h2 : Blk W' q 120 #[.slice A 2 c, .int .i64 ((2 : Nat) : Int)]) => wor_0 1 q A 2 c W' h2
  have HTX := Lib.hid (show ∀ W', Below W0.heap.size W0 W' → Calls Tryz.prog 7 #[.string ((tx cs).extract 0 (skB cs n))] W' fun e w' => e = .returned (.agg #[.int .i64 2, .string ⟨#[]⟩, .string ⟨#[]⟩, .string (tx (cs.take n)), .bool false, .int .i64 0, .int .i64 0, .int .i64 0, .slice none 0 0]) ∧ Below W'.heap.size W' w' from fun W' h1 => by
    rw [tx_take]
    exact text_t (tx (cs.take n)) W' (he.below h1) ht1 (Nat.le_trans (txtE_size ht1) (by decide)))
  have HFI := Lib.hid (plL_first hcs hds hne hn h1 h2)
  have hne2 : ¬ (tx ds).toList = [] := by
    have h := tx_nil_l hds (i := 0) (List.length_pos_iff.2 hne)
    exact h
  have hsk := skB_le cs n
  have HSZ0 := Lib.hid h0.size
  have hql := hq.lt
  obtain ⟨r, hr⟩ : ∃ r, r = W.heap.size := ⟨_, rfl⟩
  have HR0 := Lib.hid (Blk.new W 26 #[.int .i64 0, .string ⟨#[]⟩, .string ⟨#[]⟩, .string ⟨#[]⟩, .bool false, .int .i64 0, .int .i64 0, .int .i64 0, .slice none 0 0])
  rw [← hr] at HR0
  have HTQ := Lib.hid (show r ∉ [q] from by rw [List.mem_singleton]; omega)
  have HQ0 := Lib.hid (show Blk (W.alloc (.cells #[.int .i64 0, .string ⟨#[]⟩, .string ⟨#[]⟩, .string ⟨#[]⟩, .bool false, .int .i64 0, .int .i64 0, .int .i64 0, .slice none 0 0] 26)) q 120 #[.slice A 2 c, .int .i64 ((0 : Nat) : Int)] from hq.alloc _)
  have HB0 := Lib.hid (h0.trans ((below_al W (.cells #[.int .i64 0, .string ⟨#[]⟩, .string ⟨#[]⟩, .string ⟨#[]⟩, .bool false, .int .i64 0, .int .i64 0, .int .i64 0, .slice none 0 0] 26)).mono h0.size))
  have HC0 := Lib.hid (Chg.of (below_al W (.cells #[.int .i64 0, .string ⟨#[]⟩, .string ⟨#[]⟩, .string ⟨#[]⟩, .bool false, .int .i64 0, .int .i64 0, .int .i64 0, .slice none 0 0] 26)) [q])
  have HH := Lib.hid hr
  have HWr := Lib.hid (show W.heap.size ≤ r + 1 from by omega)
  have HW0r := Lib.hid (show W0.heap.size ≤ r + 1 from by have := h0.size; omega)

  clear h0 hq hA he hql ht hd ht1 h1 h2
  go_enter Tryz.func85, Tryz.ntmps85
  go_upto_region 1 with fail
  rw [← hr]
  clear hr
  revert HR0 HQ0 HB0 HC0
  generalize W.alloc (.cells #[.int .i64 0, .string ⟨#[]⟩, .string ⟨#[]⟩, .string ⟨#[]⟩, .bool false, .int .i64 0, .int .i64 0, .int .i64 0, .slice none 0 0] 26) = w0
  intro HR0 HQ0 HB0 HC0
  go_upto_region 3 with (first
    | (go_at_call 53; (with_reducible refine (HT0.out _ HB0.out HQ0.out).mono ?_); rintro e w1 ⟨rfl, hq1, hb, hc⟩; have HQ1 := Lib.hid hq1; have HB1 := Lib.hid hb; have HC1 := Lib.hid (HC0.out.next hc); have HR1 := Lib.hid (hc.blk HR0.out HR0.out.lt HTQ.out); clear hq1 hb hc HQ0 HB0 HC0 HR0)
    | (go_at_call 53; (with_reducible refine (HT1.out _ HB1.out HQ1.out).mono ?_); rintro e w2 ⟨rfl, hq1, hb, hc⟩; have HQ2 := Lib.hid hq1; have HB2 := Lib.hid hb; have HC2 := Lib.hid (HC1.out.next hc); have HR2 := Lib.hid (hc.blk HR1.out HR1.out.lt HTQ.out); clear hq1 hb hc HQ1 HB1 HC1 HR1)
    | (go_at_call 114; (with_reducible refine (HWO.out _ HQ2.out).mono ?_); rintro e w3 ⟨rfl, hb⟩; have HQ3 := Lib.hid (HQ2.out.later hb); have HB3 := Lib.hid (HB2.out.trans (hb.mono HB2.out.size)); have HC3 := Lib.hid (HC2.out.next (Chg.of hb [q])); have HR3 := Lib.hid (HR2.out.later hb); clear hb HQ2 HB2 HC2 HR2)
    | (go_at_call 115; (with_reducible refine (wrong_b (by simp [hne2]) _).mono ?_); rintro e w4s ⟨rfl, rfl⟩))
  go_upto_block 0 with fail
  go_cut [8] (fun u8 wr => ∃ v : Value, v = u8 ∧ Hid (RowOf 3 1 iC wr (r + 1) v (plL cs ds (tx cs).size)) ∧ Hid (Below W0.heap.size W0 wr) ∧ Hid (Chg W.heap.size [q] W wr) ∧ Hid (Blk wr r 26 #[.int .i64 0, .string ⟨#[]⟩, .string ⟨#[]⟩, .string ⟨#[]⟩, .bool false, .int .i64 0, .int .i64 0, .int .i64 0, .slice none 0 0]))
  case first =>
    go_wp2_with fail
    go_loopw [8, 26] (fun u8 u26 wr => ∃ (i : Nat) (v : Value), i ≤ (tx cs).size ∧ v = u8 ∧ u26 = .int .i64 (i : Int) ∧ Hid (RowOf 3 1 iC wr (r + 1) v (plL cs ds i)) ∧ Hid (Below W0.heap.size W0 wr) ∧ Hid (Chg W.heap.size [q] W wr) ∧ Hid (Blk wr r 26 #[.int .i64 0, .string ⟨#[]⟩, .string ⟨#[]⟩, .string ⟨#[]⟩, .bool false, .int .i64 0, .int .i64 0, .int .i64 0, .slice none 0 0])) (fun _ u26 _ => (tx cs).size - (intOf u26).toNat)
    case atStart => exact ⟨0, _, Nat.zero_le _, rfl, rfl, Lib.hid (RowOf.nil _ _), HB3, HC3, HR3⟩
    case round =>
      clear HB3 HC3 HR3 HQ3
      obtain ⟨i, v, hi, rfl, rfl, HO, HB, HC, HRr⟩ := hrel
      by_cases hlt : i < (tx cs).size
      · have i1 : IntKind.i64.wrap ((i : Int) + 1) = (i : Int) + 1 := IntWalk.i64_in _ (by omega)
        have x0 : 0 ≤ (i : Int) := by omega
        have x1 : (i : Int) ≤ ((tx cs).size : Int) := by omega
        have x2 : (i : Int) < ((tx cs).size : Int) := by omega
        have hpl := plL_len cs ds i
        have HPS := Lib.hid (plL_succ cs ds i)
        obtain ⟨LP, hLP⟩ : ∃ LP, LP = plL cs ds i := ⟨_, rfl⟩
        rw [← hLP] at HO hpl HPS
        clear hLP
        cases hat : atB cs ds i with
        | true =>
          have HHP := Lib.hid (hp_b cs ds i wr true hat)
          have HPT := Lib.hid (show plL cs ds (i + 1) = LP ++ [i] from by rw [HPS.out, hat]; rfl)
          clear hat HPS
          go_wp2_with (first
            | (go_at_call 15; (with_reducible refine HHP.out.mono ?_); rintro e w1 ⟨rfl, rfl⟩)
            | (at_builtin; go_loud (refine wp_row1 152 3 1 8 iC _ Tryz.underlying152 in_info rfl (by decide) iC_one rfl _ _ rfl (r + 1) _ LP rfl HO.out i _ ?_ rfl (by omega) (by unfold maxLen; omega) HRr.out.lt ?_); (rfl); intro v4 w7 ho hb hg; have HO7 := Lib.hid ho; have HB7 := Lib.hid (HB.out.trans (hb.mono HW0r.out)); have HC7 := Lib.hid (HC.out.trans (Chg.of (hb.mono HWr.out) [q])); have HR7 := Lib.hid (HRr.out.below hb (Nat.lt_succ_self _)); clear ho hb hg HO HB HC HRr))
          go_roundw
          case rel => exact ⟨i + 1, _, by omega, rfl, by go_num, by rw [HPT.out]; exact HO7, HB7, HC7, HR7⟩
          case measure => simp [intOf]; omega
        | false =>
          have HHP := Lib.hid (hp_b cs ds i wr false hat)
          have HPT := Lib.hid (show plL cs ds (i + 1) = LP from by rw [HPS.out, hat]; simp)
          clear hat HPS
          go_wp2_with (go_at_call 15; (with_reducible refine HHP.out.mono ?_); rintro e w1 ⟨rfl, rfl⟩)
          go_roundw
          case rel => exact ⟨i + 1, _, by omega, rfl, by go_num, by rw [HPT.out]; exact HO, HB, HC, HRr⟩
          case measure => simp [intOf]; omega
      · obtain rfl : i = (tx cs).size := by omega
        go_wp2_with fail
        go_meet
        exact ⟨v, rfl, HO, HB, HC, HRr⟩
  case rest =>
    obtain ⟨v, rfl, HO, HB, HC, HRr⟩ := hcut
    have hfi := HFI.out
    have hl0 : 0 < (plL cs ds (tx cs).size).length := by
      rcases Nat.eq_zero_or_pos (plL cs ds (tx cs).size).length with h | h
      · rw [List.getElem?_eq_none (by omega)] at hfi
        cases hfi
      · exact h
    obtain ⟨g, cp, rfl, -, -⟩ := HO.out.form hl0
    have c0 : wc.cell? ⟨g, 0, none⟩ = some (.int .i64 ((skB cs n : Nat) : Int)) := by
      obtain ⟨A', c', e, e1, -, e3⟩ := HO.out.reads fun x => (iC_one x).1
      injection e with e4 e5 e6
      obtain ⟨b, o, e7, e8, e9⟩ := e3 hl0
      rw [← e4] at e7
      injection e7 with e7
      injection e7 with e10 e11
      subst e10 e11
      have h := e9 0 hl0 0 (by decide)
      rw [List.getElem?_eq_getElem hl0] at hfi
      injection hfi with hfi
      rw [hfi] at h
      exact h
    obtain ⟨K, hK⟩ : ∃ K, K = (plL cs ds (tx cs).size).length := ⟨_, rfl⟩
    rw [← hK] at hl0 HO ⊢
    have k1 : ¬ (K : Int) < 1 := by omega
    have k2 : (0 : Int) < (K : Int) := by omega
    clear hfi hK HO HFI
    go_upto_region 99 with (go_at_call 7; (with_reducible refine (HTX.out _ HB.out).mono ?_); rintro e w2 ⟨rfl, hb⟩; have HC2 := Lib.hid (HC.out.next (Chg.of hb [q])); have HR2 := Lib.hid (HRr.out.later hb); clear hb HC HRr; obtain ⟨f0, f1, f2, f3, f4, f5, f6, f7, f8⟩ := HR2.out.ninef; obtain ⟨z0, z1, z2, z3, z4, z5, z6, z7, z8⟩ := HR2.out.nine)
    clear f0 f1 f2 f3 f4 f5 f6 f7 f8 z0 z1 z2 z3 z4 z5 z6 z7 z8
    obtain ⟨q0, q1, q2, q3, q4, q5, q6, q7, q8⟩ := (HR2.out.nine_set (.int .i64 2) (.string ⟨#[]⟩) (.string ⟨#[]⟩) (.string (tx (cs.take n))) (.bool false) (.int .i64 0) (.int .i64 0) (.int .i64 0) (.slice none 0 0)).1.nine
    have hcn := chg_nine w2 r (.int .i64 2) (.string ⟨#[]⟩) (.string ⟨#[]⟩) (.string (tx (cs.take n))) (.bool false) (.int .i64 0) (.int .i64 0) (.int .i64 0) (.slice none 0 0)
    refine bodyPost_ret (v := .agg #[.int .i64 2, .string ⟨#[]⟩, .string ⟨#[]⟩, .string (tx (cs.take n)), .bool false, .int .i64 0, .int .i64 0, .int .i64 0, .slice none 0 0]) (by simp [results, Tryz.results85, go_sem, q0, q1, q2, q3, q4, q5, q6, q7, q8]) rfl ⟨rfl, HC2.out.trans (hcn.mono HC2.out.size fun x hx => .inr (by
      rw [List.mem_singleton.1 hx, HH.out]
      exact Nat.le_refl _))⟩

set_option maxRecDepth 100000 in
set_option maxHeartbeats 4000000 in
/-- TEXTBEFORE. -/
theorem fBef_any (W0 W : World) (q : Nat) (A : Option Addr) (c : Nat) (cs ds : List (List UInt8)) (hcs : ChsOk cs) (hds : ChsOk ds) (hsz : (tx cs).size ≤ 32767) (hsd : (tx ds).size ≤ 32767) (hne : ds ≠ []) (n : Nat) (hn : n ≤ cs.length) (h1 : atC cs ds n = true) (h2 : ∀ m, m < n → atC cs ds m = false) (he : VEnv W0) (h0 : Below W0.heap.size W0 W) (hq0 : W0.heap.size ≤ q) (hq : Blk W q 120 #[.slice A 2 c, .int .i64 0]) (hA : Reads 9 csV W0 (.slice A 2 c) [tV (tx cs), tV (tx ds)]) :
    Calls Tryz.prog 84 #[.pointer (some ⟨q, 0, none⟩)] W (ResV (tV (tx (cs.take n))) q W) := by
  have HFD := Lib.hid (show ∀ W', Below W0.heap.size W0 W' → Blk W' q 120 #[.slice A 2 c, .int .i64 ((0 : Nat) : Int)] → Calls Tryz.prog 85 #[.pointer (some ⟨q, 0, none⟩), .bool false] W' fun e w' => e = .returned (.agg #[.int .i64 2, .string ⟨#[]⟩, .string ⟨#[]⟩, .string (tx (cs.take n)), .bool false, .int .i64 0, .int .i64 0, .int .i64 0, .slice none 0 0]) ∧ Chg W'.heap.size [q] W' w' from fun W' g1 g2 => (part_any W0 W' q A c cs ds hcs hds hsz hsd hne n hn h1 h2 he g1 hq0 g2 hA).mono fun e w' h => h)
  have hql := hq.lt
  obtain ⟨r, hr⟩ : ∃ r, r = W.heap.size := ⟨_, rfl⟩
  have HR0 := Lib.hid (Blk.new W 26 #[.int .i64 0, .string ⟨#[]⟩, .string ⟨#[]⟩, .string ⟨#[]⟩, .bool false, .int .i64 0, .int .i64 0, .int .i64 0, .slice none 0 0])
  rw [← hr] at HR0
  have HTQ := Lib.hid (show r ∉ [q] from by rw [List.mem_singleton]; omega)
  have HQ0 := Lib.hid (show Blk (W.alloc (.cells #[.int .i64 0, .string ⟨#[]⟩, .string ⟨#[]⟩, .string ⟨#[]⟩, .bool false, .int .i64 0, .int .i64 0, .int .i64 0, .slice none 0 0] 26)) q 120 #[.slice A 2 c, .int .i64 ((0 : Nat) : Int)] from hq.alloc _)
  have HB0 := Lib.hid (h0.trans ((below_al W (.cells #[.int .i64 0, .string ⟨#[]⟩, .string ⟨#[]⟩, .string ⟨#[]⟩, .bool false, .int .i64 0, .int .i64 0, .int .i64 0, .slice none 0 0] 26)).mono h0.size))
  have HC0 := Lib.hid (Chg.of (below_al W (.cells #[.int .i64 0, .string ⟨#[]⟩, .string ⟨#[]⟩, .string ⟨#[]⟩, .bool false, .int .i64 0, .int .i64 0, .int .i64 0, .slice none 0 0] 26)) [q])
  have HH := Lib.hid hr
  clear h0 hq hA he hql
  go_enter Tryz.func84, Tryz.ntmps84
  go_upto_region 1 with fail
  rw [← hr]
  clear hr
  revert HR0 HQ0 HB0 HC0
  generalize W.alloc (.cells #[.int .i64 0, .string ⟨#[]⟩, .string ⟨#[]⟩, .string ⟨#[]⟩, .bool false, .int .i64 0, .int .i64 0, .int .i64 0, .slice none 0 0] 26) = w0
  intro HR0 HQ0 HB0 HC0
  go_upto_region 99 with (go_at_call 85; (with_reducible refine (HFD.out _ HB0.out HQ0.out).mono ?_); rintro e w1 ⟨rfl, hc⟩; have HC1 := Lib.hid (HC0.out.next hc); have HR1 := Lib.hid (hc.blk HR0.out HR0.out.lt HTQ.out); clear hc HC0 HR0 HQ0 HB0; obtain ⟨f0, f1, f2, f3, f4, f5, f6, f7, f8⟩ := HR1.out.ninef; obtain ⟨z0, z1, z2, z3, z4, z5, z6, z7, z8⟩ := HR1.out.nine)
  clear f0 f1 f2 f3 f4 f5 f6 f7 f8 z0 z1 z2 z3 z4 z5 z6 z7 z8
  obtain ⟨q0, q1, q2, q3, q4, q5, q6, q7, q8⟩ := (HR1.out.nine_set (.int .i64 2) (.string ⟨#[]⟩) (.string ⟨#[]⟩) (.string (tx (cs.take n))) (.bool false) (.int .i64 0) (.int .i64 0) (.int .i64 0) (.slice none 0 0)).1.nine
  have hcn := chg_nine w1 r (.int .i64 2) (.string ⟨#[]⟩) (.string ⟨#[]⟩) (.string (tx (cs.take n))) (.bool false) (.int .i64 0) (.int .i64 0) (.int .i64 0) (.slice none 0 0)
  refine bodyPost_ret (v := .agg #[.int .i64 2, .string ⟨#[]⟩, .string ⟨#[]⟩, .string (tx (cs.take n)), .bool false, .int .i64 0, .int .i64 0, .int .i64 0, .slice none 0 0]) (by simp [results, Tryz.results84, go_sem, q0, q1, q2, q3, q4, q5, q6, q7, q8]) rfl ⟨rfl, HC1.out.trans (hcn.mono HC1.out.size fun x hx => .inr (by
    rw [List.mem_singleton.1 hx, HH.out]
    exact Nat.le_refl _))⟩

end Go.Proofs.YtcnlonaighlmbaaGreatDoor
