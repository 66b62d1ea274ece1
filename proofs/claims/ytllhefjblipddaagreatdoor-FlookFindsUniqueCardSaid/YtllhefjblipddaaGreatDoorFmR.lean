/- flook: XLOOKUP of a number in a column. -/
import Derived.Test.YtllhefjblipddaaGreatDoorHaf
set_option linter.unusedSimpArgs false
set_option linter.unusedVariables false
namespace Go.Proofs.YtllhefjblipddaaGreatDoor
open Go.RowKit

/-- The answer: the number that is equal. -/
def PhX (R : Nat) (v : Nat → Nat) (s d : ByteArray) (h : Vl) (us : List Vl) : Prop := us = [] ∧ ∃ i, i < R ∧ eqF v s d i = true ∧ h = nV (v i)
/-- Where the function stands. -/
structure XS (W0 W : World) (q t X R : Nat) (b o cc : Nat) (s d : ByteArray) (w : World) : Prop where
  bel : Below W0.heap.size W0 w
  chg : Chg W.heap.size [q] W w
  zt : Blk w t 27 #[.int .i64 0, .string ⟨#[]⟩, .string ⟨#[]⟩, .string ⟨#[]⟩, .bool false, .int .i64 0, .int .i64 0, .int .i64 0, .slice none 0 0]
  bx : Blk w X 27 #[.int .i64 1, .string s, .string d, .string ⟨#[]⟩, .bool false, .int .i64 0, .int .i64 0, .int .i64 0, .slice none 0 0]
  a4 : Blk w (X + 1) 69 #[.int .i64 (R : Int), .int .i64 1, .slice (some ⟨b, o, none⟩) R cc]
  a5 : Blk w (X + 2) 69 #[.int .i64 (R : Int), .int .i64 1, .slice (some ⟨b, o, none⟩) R cc]
section
variable {W0 W : World} {q t X R b o cc : Nat} {s d : ByteArray} {w w' : World}
theorem XS.step (h : XS W0 W q t X R b o cc s d w) (hb : Below w.heap.size w w') : XS W0 W q t X R b o cc s d w' := ⟨h.bel.trans (hb.mono h.bel.size), h.chg.next (Chg.of hb [q]), h.zt.later hb, h.bx.later hb, h.a4.later hb, h.a5.later hb⟩
theorem XS.cells (h : XS W0 W q t X R b o cc s d w) : ∀ w', Below w.heap.size w w' → w'.cell? ⟨X + 2, 0, none⟩ = some (.int .i64 (R : Int)) ∧ w'.cell? ⟨X + 2, 1, none⟩ = some (.int .i64 1) ∧ w'.cell? ⟨X + 2, 2, none⟩ = some (.slice (some ⟨b, o, none⟩) R cc) := fun w' hw => ⟨(h.a5.later hw).cell 0, (h.a5.later hw).cell 1, (h.a5.later hw).cell 2⟩
end
set_option maxRecDepth 100000 in
set_option maxHeartbeats 16000000 in
/-- XLOOKUP. -/
theorem fXl_any (B0 W0 W : World) (q : Nat) (A : Option Addr) (c : Nat) (u : Vl) (R : Nat) (v : Nat → Nat) (s d : ByteArray) (he : VEnv W0) (h0 : Below W0.heap.size W0 W) (hq0 : W0.heap.size ≤ q) (hq : Blk W q 90 #[.slice A 3 c, .int .i64 0]) (hA : Reads 9 csV W0 (.slice A 3 c) [qV s d, u, u]) (hu : AR W0 u R 1 (nVs R v)) (hv : ∀ i, i < R → v i ≤ 1000) (hR : R ≤ 100) (h2 : GN s d) (hex : ∃ i, i < R ∧ eqF v s d i = true) :
    Calls Tryz.prog 35 #[.pointer (some ⟨q, 0, none⟩)] W (ResG B0 W [q] (PhX R v s d)) := by
  obtain ⟨A2, n2, cc, rfl, hn, hr⟩ := hu.ex
  have r1 := hu.r1
  have hn2 : n2 = R := by rw [hn, Nat.mul_one]
  subst hn2
  obtain ⟨b, o, rfl⟩ : ∃ b o, A2 = some ⟨b, o, none⟩ := by
    obtain ⟨A', c', e, -, -, h3⟩ := hr
    injection e with e1 e2 e3
    obtain ⟨b, o, e4, -⟩ := h3 (by rw [nVs_len]; omega)
    exact ⟨b, o, e1.trans e4⟩
  generalize n2 = R at *
  have HWA := Lib.hid (show Calls Tryz.prog 76 #[.pointer (some ⟨q, 0, none⟩)] (W.alloc (.cells #[.int .i64 0, .string ⟨#[]⟩, .string ⟨#[]⟩, .string ⟨#[]⟩, .bool false, .int .i64 0, .int .i64 0, .int .i64 0, .slice none 0 0] 27)) fun e w' => e = .returned (.agg #[.int .i64 1, .string s, .string d, .string ⟨#[]⟩, .bool false, .int .i64 0, .int .i64 0, .int .i64 0, .slice none 0 0]) ∧ Blk w' q 90 #[.slice A 3 c, .int .i64 (((0 : Nat) : Int) + 1)] ∧ Below W0.heap.size W0 w' ∧ Chg (W.alloc (.cells #[.int .i64 0, .string ⟨#[]⟩, .string ⟨#[]⟩, .string ⟨#[]⟩, .bool false, .int .i64 0, .int .i64 0, .int .i64 0, .slice none 0 0] 27)).heap.size [q] (W.alloc (.cells #[.int .i64 0, .string ⟨#[]⟩, .string ⟨#[]⟩, .string ⟨#[]⟩, .bool false, .int .i64 0, .int .i64 0, .int .i64 0, .slice none 0 0] 27)) w' from wanted_b W0 (W.alloc (.cells #[.int .i64 0, .string ⟨#[]⟩, .string ⟨#[]⟩, .string ⟨#[]⟩, .bool false, .int .i64 0, .int .i64 0, .int .i64 0, .slice none 0 0] 27)) q A 3 c 0 _ s d (h0.trans ((below_al W _).mono h0.size)) hq0 (hq.alloc _) hA (by decide) (by decide) rfl)
  have HVA := Lib.hid (show ∀ w, Below W0.heap.size W0 w → Blk w q 90 #[.slice A 3 c, .int .i64 (((0 : Nat) : Int) + 1)] → Calls Tryz.prog 39 #[.pointer (some ⟨q, 0, none⟩)] w fun e w' => e = .returned (aV (R : Int) 1 (some ⟨b, o, none⟩) R cc) ∧ Blk w' q 90 #[.slice A 3 c, .int .i64 (((1 : Nat) : Int) + 1)] ∧ Below W0.heap.size W0 w' ∧ Chg w.heap.size [q] w w' from fun w hw hb => value_b W0 w q A 3 c 1 _ hw hq0 hb hA (by decide) (by decide))
  have HVB := Lib.hid (show ∀ w, Below W0.heap.size W0 w → Blk w q 90 #[.slice A 3 c, .int .i64 (((1 : Nat) : Int) + 1)] → Calls Tryz.prog 39 #[.pointer (some ⟨q, 0, none⟩)] w fun e w' => e = .returned (aV (R : Int) 1 (some ⟨b, o, none⟩) R cc) ∧ Blk w' q 90 #[.slice A 3 c, .int .i64 ((3 : Nat) : Int)] ∧ Below W0.heap.size W0 w' ∧ Chg w.heap.size [q] w w' from fun w hw hb => (value_b W0 w q A 3 c 2 _ hw hq0 (show Blk w q 90 #[.slice A 3 c, .int .i64 ((2 : Nat) : Int)] from by rw [show ((2 : Nat) : Int) = ((1 : Nat) : Int) + 1 from rfl]; exact hb) hA (by decide) (by decide)).mono fun e w' hh => ⟨hh.1, (by have h := hh.2.1; rw [show ((2 : Nat) : Int) + 1 = ((3 : Nat) : Int) from rfl] at h; exact h), hh.2.2⟩)
  have HMO := Lib.hid fun w (hb : Blk w q 90 #[.slice A 3 c, .int .i64 ((3 : Nat) : Int)]) => more_any q A 3 c 3 w hb false (by simp)
  have HWO := Lib.hid fun w (hb : Blk w q 90 #[.slice A 3 c, .int .i64 ((3 : Nat) : Int)]) => wor_0 0 q A 3 c w hb
  have HFA := Lib.hid fun w (hw : Below W0.heap.size W0 w) => (show Calls Tryz.prog 27 #[.int .i64 6] w fun e w' => e = .returned (.agg #[.int .i64 4, .string ⟨#[]⟩, .string ⟨#[]⟩, .string ⟨#[]⟩, .bool false, .int .i64 6, .int .i64 0, .int .i64 0, .slice none 0 0]) ∧ Below w.heap.size w w' from fault_t 6 w (he.below hw) (by decide) (by decide))
  have HFO := Lib.hid (show ∀ w, Below W0.heap.size W0 w → Calls Tryz.prog 80 #[.slice (some ⟨b, o, none⟩) R cc, .agg #[.int .i64 1, .string s, .string d, .string ⟨#[]⟩, .bool false, .int .i64 0, .int .i64 0, .int .i64 0, .slice none 0 0], .int .i64 0] w fun e w' => ∃ i : Nat, e = .returned (.int .i64 (i : Int)) ∧ i < R ∧ eqF v s d i = true ∧ Below w.heap.size w w' from fun w hw => (found_any R b o cc v s d w (he.below hw) (by omega) hv (hr.below hw) h2).mono fun e w' hh => by
    obtain ⟨r, h1, h3, h4⟩ := hh
    rcases h3 with ⟨-, hn⟩ | ⟨i, rfl, h5, h6, -⟩
    · obtain ⟨i, hi, hp⟩ := hex
      rw [hn i hi] at hp
      cases hp
    · exact ⟨i, h1, h5, h6, h4⟩)
  have HR0 := Lib.hid hr
  obtain ⟨t, ht⟩ : ∃ t, t = W.heap.size := ⟨_, rfl⟩
  have HRz := Lib.hid (Blk.new W 27 #[.int .i64 0, .string ⟨#[]⟩, .string ⟨#[]⟩, .string ⟨#[]⟩, .bool false, .int .i64 0, .int .i64 0, .int .i64 0, .slice none 0 0])
  rw [← ht] at HRz
  have hqt : q < t := by have := hq.lt; omega
  have htq : t ∉ [q] := fun h => by
    rw [List.mem_singleton] at h
    omega
  have HTQ := Lib.hid htq
  have HTS := Lib.hid (show t < (W.alloc (.cells #[.int .i64 0, .string ⟨#[]⟩, .string ⟨#[]⟩, .string ⟨#[]⟩, .bool false, .int .i64 0, .int .i64 0, .int .i64 0, .slice none 0 0] 27)).heap.size from by rw [ht]; simp)
  have HH := Lib.hid ht
  clear htq hr h0 hq hA hu hn he hv h2 hex
  go_enter Tryz.func35, Tryz.ntmps35
  go_upto_region 1 with fail
  rw [← ht]
  clear ht
  go_upto_region 2 with (first
    | (go_at_call 76; (with_reducible refine HWA.out.mono ?_); rintro e w1 ⟨rfl, hq1, hb, hc⟩; have HQ1 := Lib.hid hq1; have HB1 := Lib.hid hb; have HC1 := Lib.hid ((Chg.of (below_al W _) [q]).next hc); have HRa := Lib.hid (hc.blk HRz.out HTS.out HTQ.out); clear hq1 hb hc HRz)
    | (go_at_call 39; (with_reducible refine (HVA.out _ HB1.out HQ1.out).mono ?_); rintro e w2 ⟨rfl, hq1, hb, hc⟩; have HQ2 := Lib.hid hq1; have HB2 := Lib.hid hb; have HC2 := Lib.hid (HC1.out.next hc); have HRb := Lib.hid (hc.blk HRa.out HRa.out.lt HTQ.out); clear hq1 hb hc HRa HQ1 HB1 HC1)
    | (go_at_call 39; (with_reducible refine (HVB.out _ HB3.out HQ3.out).mono ?_); rintro e w4 ⟨rfl, hq1, hb, hc⟩; have HQ4 := Lib.hid hq1; have HB4 := Lib.hid hb; have HC4 := Lib.hid (HC3.out.next hc); have HRd := Lib.hid (hc.blk HRc.out HRc.out.lt HTQ.out); clear hq1 hb hc HRc HQ3 HB3 HC3)
    | (go_at_call 38; (with_reducible refine (grid_a _ _ _ _ _ _).mono ?_); rintro e w3 ⟨rfl, hb⟩; have HQ3 := Lib.hid (HQ2.out.later hb); have HB3 := Lib.hid (HB2.out.trans (hb.mono HB2.out.size)); have HC3 := Lib.hid (HC2.out.next (Chg.of hb [q])); have HRc := Lib.hid (HRb.out.later hb); clear hb HQ2 HB2 HRb HC2)
    | (go_at_call 38; (with_reducible refine (grid_a _ _ _ _ _ _).mono ?_); rintro e w5 ⟨rfl, hb⟩; have HQ5 := Lib.hid (HQ4.out.later hb); have HB5 := Lib.hid (HB4.out.trans (hb.mono HB4.out.size)); have HC5 := Lib.hid (HC4.out.next (Chg.of hb [q])); have HRe := Lib.hid (HRd.out.later hb); clear hb HQ4 HB4 HRd HC4))
  have hbA := below_al w5 (.cells #[.int .i64 1, .string s, .string d, .string ⟨#[]⟩, .bool false, .int .i64 0, .int .i64 0, .int .i64 0, .slice none 0 0] 27)
  have hbB := below_al (w5.alloc (.cells #[.int .i64 1, .string s, .string d, .string ⟨#[]⟩, .bool false, .int .i64 0, .int .i64 0, .int .i64 0, .slice none 0 0] 27)) (.cells #[.int .i64 (R : Int), .int .i64 1, .slice (some ⟨b, o, none⟩) R cc] 69)
  have hbC := below_al ((w5.alloc (.cells #[.int .i64 1, .string s, .string d, .string ⟨#[]⟩, .bool false, .int .i64 0, .int .i64 0, .int .i64 0, .slice none 0 0] 27)).alloc (.cells #[.int .i64 (R : Int), .int .i64 1, .slice (some ⟨b, o, none⟩) R cc] 69)) (.cells #[.int .i64 (R : Int), .int .i64 1, .slice (some ⟨b, o, none⟩) R cc] 69)
  have hba := (hbA.trans (hbB.mono hbA.size)).trans (hbC.mono (hbA.trans (hbB.mono hbA.size)).size)
  have HQ6 := Lib.hid (HQ5.out.later hba)
  have HI := Lib.hid (show XS W0 W q t w5.heap.size R b o cc s d (((w5.alloc (.cells #[.int .i64 1, .string s, .string d, .string ⟨#[]⟩, .bool false, .int .i64 0, .int .i64 0, .int .i64 0, .slice none 0 0] 27)).alloc (.cells #[.int .i64 (R : Int), .int .i64 1, .slice (some ⟨b, o, none⟩) R cc] 69)).alloc (.cells #[.int .i64 (R : Int), .int .i64 1, .slice (some ⟨b, o, none⟩) R cc] 69)) from ⟨HB5.out.trans (hba.mono HB5.out.size), HC5.out.next (Chg.of hba [q]), HRe.out.later hba, ((Blk.new w5 27 #[.int .i64 1, .string s, .string d, .string ⟨#[]⟩, .bool false, .int .i64 0, .int .i64 0, .int .i64 0, .slice none 0 0]).alloc _).alloc _, by have h := (Blk.new (w5.alloc (.cells #[.int .i64 1, .string s, .string d, .string ⟨#[]⟩, .bool false, .int .i64 0, .int .i64 0, .int .i64 0, .slice none 0 0] 27)) 69 #[.int .i64 (R : Int), .int .i64 1, .slice (some ⟨b, o, none⟩) R cc]).alloc (.cells #[.int .i64 (R : Int), .int .i64 1, .slice (some ⟨b, o, none⟩) R cc] 69); rw [show (w5.alloc (.cells #[.int .i64 1, .string s, .string d, .string ⟨#[]⟩, .bool false, .int .i64 0, .int .i64 0, .int .i64 0, .slice none 0 0] 27)).heap.size = w5.heap.size + 1 by simp] at h; exact h, by have h := Blk.new ((w5.alloc (.cells #[.int .i64 1, .string s, .string d, .string ⟨#[]⟩, .bool false, .int .i64 0, .int .i64 0, .int .i64 0, .slice none 0 0] 27)).alloc (.cells #[.int .i64 (R : Int), .int .i64 1, .slice (some ⟨b, o, none⟩) R cc] 69)) 69 #[.int .i64 (R : Int), .int .i64 1, .slice (some ⟨b, o, none⟩) R cc]; rw [show ((w5.alloc (.cells #[.int .i64 1, .string s, .string d, .string ⟨#[]⟩, .bool false, .int .i64 0, .int .i64 0, .int .i64 0, .slice none 0 0] 27)).alloc (.cells #[.int .i64 (R : Int), .int .i64 1, .slice (some ⟨b, o, none⟩) R cc] 69)).heap.size = w5.heap.size + 2 by simp] at h; exact h⟩)
  have HXT := Lib.hid (show t < w5.heap.size ∧ W0.heap.size ≤ w5.heap.size from ⟨HRe.out.lt, HB5.out.size⟩)
  clear HB5 HC5 HRe HQ5 hba hbA hbB hbC
  revert HQ6 HI HXT
  generalize ((w5.alloc (.cells #[.int .i64 1, .string s, .string d, .string ⟨#[]⟩, .bool false, .int .i64 0, .int .i64 0, .int .i64 0, .slice none 0 0] 27)).alloc (.cells #[.int .i64 (R : Int), .int .i64 1, .slice (some ⟨b, o, none⟩) R cc] 69)).alloc (.cells #[.int .i64 (R : Int), .int .i64 1, .slice (some ⟨b, o, none⟩) R cc] 69) = w6
  generalize w5.heap.size = X
  intro HQ6 HI HXT
  try simp only [Nat.add_assoc, Nat.reduceAdd]
  go_upto_region 3 with (go_at_call 27; (with_reducible refine (HFA.out _ HI.out.bel).mono ?_); rintro e w7 ⟨rfl, hb⟩; have HI7 := Lib.hid (HI.out.step (hb.trans ((below_al w7 (.cells #[.int .i64 4, .string ⟨#[]⟩, .string ⟨#[]⟩, .string ⟨#[]⟩, .bool false, .int .i64 6, .int .i64 0, .int .i64 0, .slice none 0 0] 27)).mono hb.size))); have HQ7 := Lib.hid (HQ6.out.later (hb.trans ((below_al w7 (.cells #[.int .i64 4, .string ⟨#[]⟩, .string ⟨#[]⟩, .string ⟨#[]⟩, .bool false, .int .i64 6, .int .i64 0, .int .i64 0, .slice none 0 0] 27)).mono hb.size))); clear hb HI HQ6)
  revert HI7 HQ7
  generalize w7.alloc (.cells #[.int .i64 4, .string ⟨#[]⟩, .string ⟨#[]⟩, .string ⟨#[]⟩, .bool false, .int .i64 6, .int .i64 0, .int .i64 0, .slice none 0 0] 27) = w8
  generalize w7.heap.size = T6
  intro HI7 HQ7
  go_upto_region 6 with (first
    | (go_at_call 82; (with_reducible refine (HMO.out _ HQ7.out).mono ?_); rintro e w9 ⟨rfl, hb⟩; have HQ9 := Lib.hid (HQ7.out.later hb); have HI9 := Lib.hid (HI7.out.step hb); clear hb HI7 HQ7)
    | (go_at_call 77; (with_reducible refine (HWO.out _ HQ9.out).mono ?_); rintro e w10 ⟨rfl, hb⟩; have HIa := Lib.hid (HI9.out.step hb); clear hb HI9 HQ9))
  obtain ⟨y0, y1, y2, -⟩ := HIa.out.a4.three
  go_cut [] (fun wz => Hid (XS W0 W q t X R b o cc s d wz))
  case first =>
    rcases Nat.lt_or_ge 1 R with h | h
    all_goals
      first
        | (have hz : (1 : Int) < (R : Int) := by omega)
        | (have hz : ¬ (1 : Int) < (R : Int) := by omega)
      clear h
      go_wp2_with (go_at_call 81; (with_reducible refine (stop_f _ _).mono ?_); rintro e wq ⟨rfl, rfl⟩)
      go_meet
      exact HIa
  case rest =>
    have HIb := hcut
    clear y0 y1 y2 HIa
    obtain ⟨y0, y1, y2, -⟩ := HIb.out.a4.three
    obtain ⟨v0, v1, v2, -⟩ := HIb.out.a5.three
    obtain ⟨x0, x1, x2, x3, x4, x5, x6, x7, x8⟩ := HIb.out.bx.nine
    go_upto_region 12 with (first
      | (go_at_call 81; (with_reducible refine (stop_f _ _).mono ?_); rintro e wq ⟨rfl, rfl⟩)
      | (go_at_call 80; (with_reducible refine (HFO.out _ HIb.out.bel).mono ?_); rintro e w6 ⟨x, rfl, hx, hp, hb⟩; have HPP := Lib.hid hp; have HI := Lib.hid (HIb.out.step hb); clear hb hp))
    clear y0 y1 y2 v0 v1 v2 x0 x1 x2 x3 x4 x5 x6 x7 x8 HIb
    have hz : decide ((x : Int) < 0) = false := decide_eq_false (by omega)
    have hz2 : ¬ (x : Int) < 0 := by omega
    obtain ⟨ox, hox⟩ : ∃ ox, ox = o + x * 9 := ⟨_, rfl⟩
    obtain ⟨sx, hsx⟩ : ∃ sx, sx = nt (v x) := ⟨_, rfl⟩
    have hrx : Reads 9 csV W0 (.slice (some ⟨b, ox, none⟩) 1 (cc - x)) [nV (v x)] := by
      have h := reads_part HR0.out (by omega) x 1 (cc - x) (by omega) (by have := reads_cap HR0.out; omega)
      rw [nVs_at hx] at h
      rw [hox]
      exact h
    have HRX := Lib.hid (nv_at hrx).2
    rw [← hsx] at HRX
    have HRO := Lib.hid (show ∀ w, Below W0.heap.size W0 w → Calls Tryz.prog 85 #[.agg #[.int .i64 (R : Int), .int .i64 1, .slice (some ⟨b, o, none⟩) R cc], .int .i64 (x : Int)] w fun e w' => e = .returned (.slice (some ⟨b, ox, none⟩) 1 (cc - x)) ∧ True ∧ Below w.heap.size w w' from fun w hw => (row1_a R x b o cc v W0 hx (by omega) HR0.out w hw).mono fun e w' hh => ⟨by rw [hox]; exact hh.1, trivial, hh.2.2⟩)
    have HSX := Lib.hid (show (⟨1, sx, ⟨#[49]⟩, ⟨#[]⟩, false, 0, 0, 0, none, 0, 0⟩ : Vl) = nV (v x) from by rw [hsx]; rfl)
    clear hrx hox hsx
    go_upto_region 14 with fail
    have HSC := Lib.hid HI.out.cells
    have HB0 := Lib.hid (Below.refl w6.heap.size w6)
    refine wp_region_G (S1 := fun _ => True) (S2 := fun w' => w'.cell? ⟨X + 2, 0, none⟩ = some (.int .i64 (R : Int)) ∧ w'.cell? ⟨X + 2, 1, none⟩ = some (.int .i64 1) ∧ w'.cell? ⟨X + 2, 2, none⟩ = some (.slice (some ⟨b, o, none⟩) R cc)) (d := 7) (by kernel_rfl) trivial (HSC.out _ HB0.out.drew) (fun hT => ?_)
    refine wpAnyG_take1d (i := 0) (v := ?_) rfl rfl (by kernel_rfl) (by kernel_rfl) (by kernel_rfl) (by kernel_rfl) (fun _ _ _ h => h) (Or.inl ⟨by rfl, ?_⟩) (by assumption) (fun hT => ?_)
    rotate_left
    · intro w hSw
      (try dsimp only at hSw)
      go_simp
      (try with_reducible rfl)
    (try simp only [Act.put, List.setIfInBounds_toArray, List.set_cons_zero, List.set_cons_succ])
    refine wpAnyG_take2d (i := 1) (v := ?_) rfl rfl (by kernel_rfl) (by kernel_rfl) (by kernel_rfl) (by kernel_rfl) (by kernel_rfl) (by kernel_rfl) (fun _ _ _ h => h) (Or.inl ⟨by rfl, ?_⟩) (by assumption) (fun hT => ?_)
    rotate_left
    · intro w hSw
      (try dsimp only at hSw)
      go_simp
      (try with_reducible rfl)
    (try simp only [Act.put, List.setIfInBounds_toArray, List.set_cons_zero, List.set_cons_succ])
    refine wpAnyG_take2d (i := 2) (v := ?_) rfl rfl (by kernel_rfl) (by kernel_rfl) (by kernel_rfl) (by kernel_rfl) (by kernel_rfl) (by kernel_rfl) (fun _ _ _ h => h) (Or.inl ⟨by rfl, ?_⟩) (by assumption) (fun hT => ?_)
    rotate_left
    · intro w hSw
      (try dsimp only at hSw)
      go_simp
      (try with_reducible rfl)
    (try simp only [Act.put, List.setIfInBounds_toArray, List.set_cons_zero, List.set_cons_succ])
    refine wpAnyG_take1d (i := 3) (v := ?_) rfl rfl (by kernel_rfl) (by kernel_rfl) (by kernel_rfl) (by kernel_rfl) (fun _ _ _ h => h) (Or.inl ⟨by rfl, ?_⟩) (by assumption) (fun hT => ?_)
    rotate_left
    · intro w hSw
      (try dsimp only at hSw)
      go_simp
      (try with_reducible rfl)
    (try simp only [Act.put, List.setIfInBounds_toArray, List.set_cons_zero, List.set_cons_succ])
    refine wpAnyG_ready (rs := [4, 6]) (by kernel_rfl) (by simp) ?_
    refine AllG.cons (i := 4) rfl (fun K hK => ?_) (AllG.cons (i := 6) rfl (fun K hK => ?_) AllG.nil)
    · go_simp
      go_at_call 85
      (with_reducible refine (HRO.out _ (HI.out.step HB0.out.drew).bel).mono ?_)
      rintro e w7 ⟨rfl, -, hb⟩
      have HB1 := Lib.hid ((HB0.out.drew).trans (hb.mono (HB0.out.drew).size))
      have HI7 := Lib.hid (HI.out.step HB1.out)
      clear hb
      refine hK.out _ _ ⟨trivial, .inr (HSC.out _ HB1.out)⟩ (fun hT => ?_)
      clear hK K
      (try simp only [Act.put, List.setIfInBounds_toArray, List.set_cons_zero, List.set_cons_succ])
      refine wpAnyG_take1d (i := 5) (v := ?_) rfl rfl (by kernel_rfl) (by kernel_rfl) (by kernel_rfl) (by kernel_rfl) (fun _ _ _ h => h) (Or.inl ⟨by rfl, ?_⟩) (by assumption) (fun hT => ?_)
      rotate_left
      · intro w hSw
        (try dsimp only at hSw)
        go_simp
        (try with_reducible rfl)
      (try simp only [Act.put, List.setIfInBounds_toArray, List.set_cons_zero, List.set_cons_succ])
      refine wpAnyG_ready (rs := [6]) (by kernel_rfl) (by simp) ?_
      refine AllG.cons (i := 6) rfl (fun K hK => ?_) AllG.nil
      go_simp
      have HBA := Lib.hid (HB1.out.trans ((below_al w7 (.cells #[.int .i64 0, .int .i64 0, .slice none 0 0] 69)).mono HB1.out.size))
      have HIA := Lib.hid (HI.out.step HBA.out)
      have HNB := Lib.hid (Blk.new w7 69 #[.int .i64 0, .int .i64 0, .slice none 0 0])
      have HTP := Lib.hid (show t < w7.heap.size ∧ W0.heap.size ≤ w7.heap.size from ⟨HI7.out.zt.lt, HI7.out.bel.size⟩)
      refine hK.out _ _ ⟨trivial, .inr (HSC.out _ HBA.out)⟩ (fun hT => ?_)
      clear hK K
      (try simp only [Act.put, List.setIfInBounds_toArray, List.set_cons_zero, List.set_cons_succ])
      refine wpAnyG_ready (rs := [7]) (by kernel_rfl) (by simp) ?_
      refine AllG.cons (i := 7) rfl (fun K hK => ?_) AllG.nil
      obtain ⟨z0, z1, z2, f0, f1, f2⟩ := HNB.out.three
      go_simp
      refine hK.out _ _ ⟨trivial, .inl rfl⟩ (fun hT => ?_)
      clear hK K
      (try simp only [Act.put, List.setIfInBounds_toArray, List.set_cons_zero, List.set_cons_succ])
      refine wpAnyG_done (by kernel_rfl) ?_ _
      clear z0 z1 z2 f0 f1 f2
      have hbA := below_al w7 (.cells #[.int .i64 1, .int .i64 1, .slice (some ⟨b, ox, none⟩) 1 (cc - x)] 69)
      have HA8 := Lib.hid (Blk.new w7 69 #[.int .i64 1, .int .i64 1, .slice (some ⟨b, ox, none⟩) 1 (cc - x)])
      have HT8 := Lib.hid (HI7.out.zt.later hbA)
      have HC8 := Lib.hid (HI7.out.chg.next (Chg.of hbA [q]))
      have HB8 := Lib.hid (HI7.out.bel.trans (hbA.mono HI7.out.bel.size))
      clear hbA HIA HNB HI7 HBA HB1
      revert HA8 HT8 HC8 HB8
      generalize w7.alloc (.cells #[.int .i64 1, .int .i64 1, .slice (some ⟨b, ox, none⟩) 1 (cc - x)] 69) = w8
      generalize w7.heap.size = T10
      intro HA8 HT8 HC8 HB8
      obtain ⟨z0, z1, z2, -⟩ := HA8.out.three
      obtain ⟨e0, e1, e2, e3, e4, e5, e6, e7, e8⟩ := HRX.out w8 HB8.out
      obtain ⟨f0, f1, f2, f3, f4, f5, f6, f7, f8⟩ := HT8.out.ninef
      obtain ⟨y0, y1, y2, y3, y4, y5, y6, y7, y8⟩ := HT8.out.nine
      go_upto_region 99 with fail
      clear z0 z1 z2 e0 e1 e2 e3 e4 e5 e6 e7 e8 f0 f1 f2 f3 f4 f5 f6 f7 f8 y0 y1 y2 y3 y4 y5 y6 y7 y8
      obtain ⟨q0, q1, q2, q3, q4, q5, q6, q7, q8⟩ := (HT8.out.nine_set (.int .i64 1) (.string sx) (.string ⟨#[49]⟩) (.string ⟨#[]⟩) (.bool false) (.int .i64 0) (.int .i64 0) (.int .i64 0) (.slice none 0 0)).1.nine
      have hcn := chg_nine w8 t (.int .i64 1) (.string sx) (.string ⟨#[49]⟩) (.string ⟨#[]⟩) (.bool false) (.int .i64 0) (.int .i64 0) (.int .i64 0) (.slice none 0 0)
      exact bodyPost_ret (v := .agg #[.int .i64 1, .string sx, .string ⟨#[49]⟩, .string ⟨#[]⟩, .bool false, .int .i64 0, .int .i64 0, .int .i64 0, .slice none 0 0]) (by simp [results, Tryz.results35, go_sem, q0, q1, q2, q3, q4, q5, q6, q7, q8]) rfl ⟨1, sx, ⟨#[49]⟩, ⟨#[]⟩, false, 0, 0, 0, none, 0, 0, [], rfl, ⟨rfl, x, hx, HPP.out, HSX.out⟩, reads_nil _, (fun b o e => by cases e), HC8.out.trans (hcn.mono HC8.out.size fun y hy => .inr (by rw [List.mem_singleton.1 hy, HH.out]; exact Nat.le_refl _))⟩
    · go_simp
      have HBA := Lib.hid (show Below w6.heap.size w6 (w6.alloc (.cells #[.int .i64 0, .int .i64 0, .slice none 0 0] 69)).drew from (below_al w6 (.cells #[.int .i64 0, .int .i64 0, .slice none 0 0] 69)).drew)
      have HIA := Lib.hid (HI.out.step HBA.out)
      have HNB := Lib.hid (show Blk (w6.alloc (.cells #[.int .i64 0, .int .i64 0, .slice none 0 0] 69)).drew w6.heap.size 69 #[.int .i64 0, .int .i64 0, .slice none 0 0] from Blk.new w6 69 #[.int .i64 0, .int .i64 0, .slice none 0 0])
      have HTP := Lib.hid (show t < w6.heap.size ∧ W0.heap.size ≤ w6.heap.size from ⟨HI.out.zt.lt, HI.out.bel.size⟩)
      refine hK.out _ _ ⟨trivial, .inr (HSC.out _ HBA.out)⟩ (fun hT => ?_)
      clear hK K
      (try simp only [Act.put, List.setIfInBounds_toArray, List.set_cons_zero, List.set_cons_succ])
      refine wpAnyG_ready (rs := [4]) (by kernel_rfl) (by simp) ?_
      refine AllG.cons (i := 4) rfl (fun K hK => ?_) AllG.nil
      go_simp
      go_at_call 85
      (with_reducible refine (HRO.out _ HIA.out.bel).mono ?_)
      rintro e w7 ⟨rfl, -, hb⟩
      have HB1 := Lib.hid (HBA.out.trans (hb.mono HBA.out.size))
      have HI7 := Lib.hid (HI.out.step HB1.out)
      have HNB7 := Lib.hid (HNB.out.later hb)
      clear hb
      refine hK.out _ _ ⟨trivial, .inr (HSC.out _ HB1.out)⟩ (fun hT => ?_)
      clear hK K
      (try simp only [Act.put, List.setIfInBounds_toArray, List.set_cons_zero, List.set_cons_succ])
      refine wpAnyG_take1d (i := 5) (v := ?_) rfl rfl (by kernel_rfl) (by kernel_rfl) (by kernel_rfl) (by kernel_rfl) (fun _ _ _ h => h) (Or.inl ⟨by rfl, ?_⟩) (by assumption) (fun hT => ?_)
      rotate_left
      · intro w hSw
        (try dsimp only at hSw)
        go_simp
        (try with_reducible rfl)
      (try simp only [Act.put, List.setIfInBounds_toArray, List.set_cons_zero, List.set_cons_succ])
      refine wpAnyG_ready (rs := [7]) (by kernel_rfl) (by simp) ?_
      refine AllG.cons (i := 7) rfl (fun K hK => ?_) AllG.nil
      obtain ⟨z0, z1, z2, f0, f1, f2⟩ := HNB7.out.three
      go_simp
      refine hK.out _ _ ⟨trivial, .inl rfl⟩ (fun hT => ?_)
      clear hK K
      (try simp only [Act.put, List.setIfInBounds_toArray, List.set_cons_zero, List.set_cons_succ])
      refine wpAnyG_done (by kernel_rfl) ?_ _
      clear z0 z1 z2 f0 f1 f2
      have HA8 := Lib.hid (HNB7.out.three_set (.int .i64 1) (.int .i64 1) (.slice (some ⟨b, ox, none⟩) 1 (cc - x))).1
      have hwt : W.heap.size ≤ w6.heap.size := by have := HTP.out; have := HH.out; omega
      have hw0 : W0.heap.size ≤ w6.heap.size := by have := HTP.out; omega
      have hne : t ≠ w6.heap.size := by have := HTP.out; omega
      have HT8 := Lib.hid (show Blk (((w7.setCell ⟨w6.heap.size, 0, none⟩ (.int .i64 1)).setCell ⟨w6.heap.size, 1, none⟩ (.int .i64 1)).setCell ⟨w6.heap.size, 2, none⟩ (.slice (some ⟨b, ox, none⟩) 1 (cc - x))) t 27 #[.int .i64 0, .string ⟨#[]⟩, .string ⟨#[]⟩, .string ⟨#[]⟩, .bool false, .int .i64 0, .int .i64 0, .int .i64 0, .slice none 0 0] from ((HI7.out.zt.far (p := ⟨w6.heap.size, 0, none⟩) (by exact hne) _).far (p := ⟨w6.heap.size, 1, none⟩) (by exact hne) _).far (p := ⟨w6.heap.size, 2, none⟩) (by exact hne) _)
      have HC8 := Lib.hid (show Chg W.heap.size [q] W (((w7.setCell ⟨w6.heap.size, 0, none⟩ (.int .i64 1)).setCell ⟨w6.heap.size, 1, none⟩ (.int .i64 1)).setCell ⟨w6.heap.size, 2, none⟩ (.slice (some ⟨b, ox, none⟩) 1 (cc - x))) from ((HI7.out.chg.set (p := ⟨w6.heap.size, 0, none⟩) (.inr (by exact hwt)) _).set (p := ⟨w6.heap.size, 1, none⟩) (.inr (by exact hwt)) _).set (p := ⟨w6.heap.size, 2, none⟩) (.inr (by exact hwt)) _)
      have HB8 := Lib.hid (show Below W0.heap.size W0 (((w7.setCell ⟨w6.heap.size, 0, none⟩ (.int .i64 1)).setCell ⟨w6.heap.size, 1, none⟩ (.int .i64 1)).setCell ⟨w6.heap.size, 2, none⟩ (.slice (some ⟨b, ox, none⟩) 1 (cc - x))) from below_three HI7.out.bel hw0 _ _ _)
      clear hwt hw0 hne HI7 HNB7
      revert HA8 HT8 HC8 HB8
      generalize ((w7.setCell ⟨w6.heap.size, 0, none⟩ (.int .i64 1)).setCell ⟨w6.heap.size, 1, none⟩ (.int .i64 1)).setCell ⟨w6.heap.size, 2, none⟩ (.slice (some ⟨b, ox, none⟩) 1 (cc - x)) = w8
      generalize w6.heap.size = T10
      intro HA8 HT8 HC8 HB8
      obtain ⟨z0, z1, z2, -⟩ := HA8.out.three
      obtain ⟨e0, e1, e2, e3, e4, e5, e6, e7, e8⟩ := HRX.out w8 HB8.out
      obtain ⟨f0, f1, f2, f3, f4, f5, f6, f7, f8⟩ := HT8.out.ninef
      obtain ⟨y0, y1, y2, y3, y4, y5, y6, y7, y8⟩ := HT8.out.nine
      go_upto_region 99 with fail
      clear z0 z1 z2 e0 e1 e2 e3 e4 e5 e6 e7 e8 f0 f1 f2 f3 f4 f5 f6 f7 f8 y0 y1 y2 y3 y4 y5 y6 y7 y8
      obtain ⟨q0, q1, q2, q3, q4, q5, q6, q7, q8⟩ := (HT8.out.nine_set (.int .i64 1) (.string sx) (.string ⟨#[49]⟩) (.string ⟨#[]⟩) (.bool false) (.int .i64 0) (.int .i64 0) (.int .i64 0) (.slice none 0 0)).1.nine
      have hcn := chg_nine w8 t (.int .i64 1) (.string sx) (.string ⟨#[49]⟩) (.string ⟨#[]⟩) (.bool false) (.int .i64 0) (.int .i64 0) (.int .i64 0) (.slice none 0 0)
      exact bodyPost_ret (v := .agg #[.int .i64 1, .string sx, .string ⟨#[49]⟩, .string ⟨#[]⟩, .bool false, .int .i64 0, .int .i64 0, .int .i64 0, .slice none 0 0]) (by simp [results, Tryz.results35, go_sem, q0, q1, q2, q3, q4, q5, q6, q7, q8]) rfl ⟨1, sx, ⟨#[49]⟩, ⟨#[]⟩, false, 0, 0, 0, none, 0, 0, [], rfl, ⟨rfl, x, hx, HPP.out, HSX.out⟩, reads_nil _, (fun b o e => by cases e), HC8.out.trans (hcn.mono HC8.out.size fun y hy => .inr (by rw [List.mem_singleton.1 hy, HH.out]; exact Nat.le_refl _))⟩
end Go.Proofs.YtllhefjblipddaaGreatDoor

