/- ftext: strings.Join of a row of texts; CONCAT of texts. -/
import Derived.Test.YtcnlonaighlmbaaGreatDoorFtJ
import Derived.Test.YtcnlonaighlmbaaGreatDoorFtX
set_option linter.unusedSimpArgs false
set_option linter.unusedVariables false
namespace Go.Proofs.YtcnlonaighlmbaaGreatDoor
open Go.RowKit

/-- The joined text. -/
def jnT (L : List ByteArray) (sep : ByteArray) : ByteArray := ⟨(Lib.join (L.map (·.data.toList)) sep.data.toList).toArray⟩
theorem join_row (L : List ByteArray) (sep : ByteArray) (base : Nat) (v : Value) (W : World) (h : RowOf 9 1 sC W base v L) (hL : 0 < L.length) (hN : L.length ≤ 1000000) (hlen : (Lib.join (L.map (·.data.toList)) sep.data.toList).length ≤ 1000000) :
    Calls Tryz.prog 79 #[v, .string sep] W fun e w' => e = .returned (.string (jnT L sep)) ∧ Below W.heap.size W w' := by
  obtain ⟨g, c, rfl, -, -⟩ := h.form hL
  obtain ⟨A', c', e, h1, -, h3⟩ := h.reads fun x => (sC_one x).1
  injection e with e1 e2 e3
  obtain ⟨b, o, e4, hl, hc⟩ := h3 hL
  rw [← e1] at e4
  injection e4 with e4
  injection e4 with e5 e6 e7
  subst e3 e5 e6
  refine Tryz.strings_Join g 0 c L sep W (fun j x hj => ?_) hl (by omega) h1 (by omega)
  obtain ⟨hj1, hj2⟩ := List.getElem?_eq_some_iff.1 hj
  have := hc j hj1 0 (by decide)
  rw [Nat.mul_one, Nat.add_zero] at this
  rw [this, hj2]
  rfl
theorem catT_one (tL : List ByteArray) : ∀ k, k ≤ tL.length → catT (fun i => [tL[i]!]) 0 k = tL.take k
  | 0, _ => by rw [catT_zero, List.take_zero]
  | k + 1, h => by
    rw [catT_succ, catT_one tL k (by omega), List.take_add_one, List.getElem?_eq_getElem (by omega), Nat.zero_add, getElem!_pos tL k (by omega)]
    rfl
set_option maxRecDepth 100000 in
set_option maxHeartbeats 4000000 in
/-- CONCAT. -/
theorem fCon_any (W0 W : World) (q : Nat) (A : Option Addr) (c n : Nat) (tL : List ByteArray) (hn : tL.length = n) (hn1 : 1 ≤ n) (hn2 : n ≤ 255) (hT : ∀ t ∈ tL, txtE t = 0) (s : ByteArray) (hs : jnT tL ⟨#[]⟩ = s) (hok : txtE s = 0) (he : VEnv W0) (h0 : Below W0.heap.size W0 W) (hq0 : W0.heap.size ≤ q) (hq : Blk W q 120 #[.slice A n c, .int .i64 0]) (hA : Reads 9 csV W0 (.slice A n c) (tL.map tV)) :
    Calls Tryz.prog 78 #[.pointer (some ⟨q, 0, none⟩)] W (ResV (tV s) q W) := by
  have HTS := Lib.hid (show ∀ W', Below W0.heap.size W0 W' → Blk W' q 120 #[.slice A n c, .int .i64 ((0 : Nat) : Int)] → Calls Tryz.prog 80 #[.pointer (some ⟨q, 0, none⟩)] W' fun e w' => ∃ v, e = .returned v ∧ RowOf 9 1 sC w' W'.heap.size v tL ∧ Blk w' q 120 #[.slice A n c, .int .i64 (n : Int)] ∧ Below W0.heap.size W0 w' ∧ Chg W'.heap.size [q] W' w' from fun W' h1 h2 => by
    have h := texts_any W0 W' q A n c 0 (tL.map tV) (fun i => [tL[i]!]) h1 hq0 h2 hA (Nat.zero_le _) hn2 he (fun i _ hi W2 hW2 => by
      rw [getElem!_pos (tL.map tV) i (by rw [List.length_map]; omega), List.getElem_map, getElem!_pos tL i (by omega)]
      exact (list_1 tL[i] W2).mono fun e w' ⟨A1, n1, c1, g1, g2, g3, g4⟩ => ⟨A1, n1, c1, g1, g2, g3, fun b o e => .inr (g4 b o e)⟩) (fun i _ hi t ht => by
      rw [List.mem_singleton] at ht
      rw [ht, getElem!_pos tL i (by omega)]
      exact hT _ (List.getElem_mem _)) (fun i _ hi => by simp)
    rw [Nat.sub_zero, catT_one tL n (by omega), List.take_of_length_le (by omega)] at h
    exact h)
  have hsz := txtE_size hok
  have HJ := Lib.hid (show ∀ W' base v, RowOf 9 1 sC W' base v tL → Calls Tryz.prog 79 #[v, .string ⟨#[]⟩] W' fun e w' => e = .returned (.string s) ∧ Below W'.heap.size W' w' from fun W' base v ho => by
    rw [← hs]
    refine join_row tL ⟨#[]⟩ base v W' ho (by omega) (by omega) ?_
    rw [← hs] at hsz
    have : (jnT tL ⟨#[]⟩).size = (Lib.join (tL.map (·.data.toList)) (⟨#[]⟩ : ByteArray).data.toList).length := by simp [jnT, ByteArray.size]
    omega)
  have HTX := Lib.hid (show ∀ W', Below W0.heap.size W0 W' → Calls Tryz.prog 7 #[.string s] W' fun e w' => e = .returned (.agg #[.int .i64 2, .string ⟨#[]⟩, .string ⟨#[]⟩, .string s, .bool false, .int .i64 0, .int .i64 0, .int .i64 0, .slice none 0 0]) ∧ Below W'.heap.size W' w' from fun W' h1 => text_t s W' (he.below h1) hok (Nat.le_trans hsz (by decide)))
  have hql := hq.lt
  obtain ⟨r, hr⟩ : ∃ r, r = W.heap.size := ⟨_, rfl⟩
  have HR0 := Lib.hid (Blk.new W 26 #[.int .i64 0, .string ⟨#[]⟩, .string ⟨#[]⟩, .string ⟨#[]⟩, .bool false, .int .i64 0, .int .i64 0, .int .i64 0, .slice none 0 0])
  rw [← hr] at HR0
  have HTQ := Lib.hid (show r ∉ [q] from by rw [List.mem_singleton]; omega)
  have HQ0 := Lib.hid (show Blk (W.alloc (.cells #[.int .i64 0, .string ⟨#[]⟩, .string ⟨#[]⟩, .string ⟨#[]⟩, .bool false, .int .i64 0, .int .i64 0, .int .i64 0, .slice none 0 0] 26)) q 120 #[.slice A n c, .int .i64 ((0 : Nat) : Int)] from hq.alloc _)
  have HB0 := Lib.hid (h0.trans ((below_al W (.cells #[.int .i64 0, .string ⟨#[]⟩, .string ⟨#[]⟩, .string ⟨#[]⟩, .bool false, .int .i64 0, .int .i64 0, .int .i64 0, .slice none 0 0] 26)).mono h0.size))
  have HC0 := Lib.hid (Chg.of (below_al W (.cells #[.int .i64 0, .string ⟨#[]⟩, .string ⟨#[]⟩, .string ⟨#[]⟩, .bool false, .int .i64 0, .int .i64 0, .int .i64 0, .slice none 0 0] 26)) [q])
  have HH := Lib.hid hr
  clear h0 hq hA he hql hs hT hok hsz
  go_enter Tryz.func78, Tryz.ntmps78
  go_upto_region 1 with fail
  rw [← hr]
  clear hr
  revert HR0 HQ0 HB0 HC0
  generalize W.alloc (.cells #[.int .i64 0, .string ⟨#[]⟩, .string ⟨#[]⟩, .string ⟨#[]⟩, .bool false, .int .i64 0, .int .i64 0, .int .i64 0, .slice none 0 0] 26) = w0
  intro HR0 HQ0 HB0 HC0
  go_upto_region 99 with (first
    | (go_at_call 80; (with_reducible refine (HTS.out _ HB0.out HQ0.out).mono ?_); rintro e w1 ⟨v, rfl, ho, hq1, hb, hc⟩; have HO1 := Lib.hid ho; have HQ1 := Lib.hid hq1; have HB1 := Lib.hid hb; have HC1 := Lib.hid (HC0.out.next hc); have HR1 := Lib.hid (hc.blk HR0.out HR0.out.lt HTQ.out); clear ho hq1 hb hc HQ0 HB0 HC0 HR0)
    | (go_at_call 79; (with_reducible refine (HJ.out _ _ _ HO1.out).mono ?_); rintro e w2 ⟨rfl, hb⟩; have HQ2 := Lib.hid (HQ1.out.later hb); have HB2 := Lib.hid (HB1.out.trans (hb.mono HB1.out.size)); have HC2 := Lib.hid (HC1.out.next (Chg.of hb [q])); have HR2 := Lib.hid (HR1.out.later hb); clear hb HQ1 HB1 HC1 HR1)
    | (go_at_call 7; (with_reducible refine (HTX.out _ HB2.out).mono ?_); rintro e w3 ⟨rfl, hb⟩; have HQ3 := Lib.hid (HQ2.out.later hb); have HB3 := Lib.hid (HB2.out.trans (hb.mono HB2.out.size)); have HC3 := Lib.hid (HC2.out.next (Chg.of hb [q])); have HR3 := Lib.hid (HR2.out.later hb); clear hb HQ2 HB2 HC2 HR2; obtain ⟨f0, f1, f2, f3, f4, f5, f6, f7, f8⟩ := HR3.out.ninef; obtain ⟨z0, z1, z2, z3, z4, z5, z6, z7, z8⟩ := HR3.out.nine))
  clear f0 f1 f2 f3 f4 f5 f6 f7 f8 z0 z1 z2 z3 z4 z5 z6 z7 z8
  obtain ⟨q0, q1, q2, q3, q4, q5, q6, q7, q8⟩ := (HR3.out.nine_set (.int .i64 2) (.string ⟨#[]⟩) (.string ⟨#[]⟩) (.string s) (.bool false) (.int .i64 0) (.int .i64 0) (.int .i64 0) (.slice none 0 0)).1.nine
  have hcn := chg_nine w3 r (.int .i64 2) (.string ⟨#[]⟩) (.string ⟨#[]⟩) (.string s) (.bool false) (.int .i64 0) (.int .i64 0) (.int .i64 0) (.slice none 0 0)
  refine bodyPost_ret (v := .agg #[.int .i64 2, .string ⟨#[]⟩, .string ⟨#[]⟩, .string s, .bool false, .int .i64 0, .int .i64 0, .int .i64 0, .slice none 0 0]) (by simp [results, Tryz.results78, go_sem, q0, q1, q2, q3, q4, q5, q6, q7, q8]) rfl ⟨rfl, HC3.out.trans (hcn.mono HC3.out.size fun x hx => .inr (by
    rw [List.mem_singleton.1 hx, HH.out]
    exact Nat.le_refl _))⟩
end Go.Proofs.YtcnlonaighlmbaaGreatDoor
