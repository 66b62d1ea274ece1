/- flook: MATCH and XMATCH of a number in a column. -/
import Derived.Test.YtllhefjblipddaaGreatDoorHab
import Derived.Test.YtllhefjblipddaaGreatDoorGam
import Derived.Test.YtllhefjblipddaaGreatDoorGag
import Derived.Test.YtllhefjblipddaaGreatDoorGah
import Derived.Test.YtllhefjblipddaaGreatDoorMod
set_option linter.unusedSimpArgs false
set_option linter.unusedVariables false
namespace Go.Proofs.YtllhefjblipddaaGreatDoor
open Go.RowKit

/-- The answer: a place of the number, counted from 1. -/
def PhM (R : Nat) (v : Nat → Nat) (s d : ByteArray) (h : Vl) (us : List Vl) : Prop := us = [] ∧ ∃ i, i < R ∧ eqF v s d i = true ∧ h = nV (i + 1)
theorem whole_s (i : Nat) (W0 W : World) (he : VEnv W0) (hi : i < 1000) (h0 : Below W0.heap.size W0 W) : Calls Tryz.prog 12 #[.int .i64 ((i : Int) + 1)] W fun e w' => e = .returned (.agg #[.int .i64 1, .string (nt (i + 1)), .string ⟨#[49]⟩, .string ⟨#[]⟩, .bool false, .int .i64 0, .int .i64 0, .int .i64 0, .slice none 0 0]) ∧ Below W.heap.size W w' := by
  have h := whole_t (i + 1) W (by omega) (Lib.tabBelow_of_tabIs he.pw W h0)
  rw [show ((i + 1 : Nat) : Int) = (i : Int) + 1 from by omega] at h
  exact h
/-- Where the function stands. -/
structure MS (W0 W : World) (q t X Y R : Nat) (b o cc : Nat) (s d : ByteArray) (w : World) : Prop where
  bel : Below W0.heap.size W0 w
  chg : Chg W.heap.size [q] W w
  zt : Blk w t 27 #[.int .i64 0, .string ⟨#[]⟩, .string ⟨#[]⟩, .string ⟨#[]⟩, .bool false, .int .i64 0, .int .i64 0, .int .i64 0, .slice none 0 0]
  bx : Blk w X 27 #[.int .i64 1, .string s, .string d, .string ⟨#[]⟩, .bool false, .int .i64 0, .int .i64 0, .int .i64 0, .slice none 0 0]
  by_ : Blk w Y 27 #[.int .i64 5, .string ⟨#[]⟩, .string ⟨#[]⟩, .string ⟨#[]⟩, .bool false, .int .i64 0, .int .i64 (R : Int), .int .i64 1, .slice (some ⟨b, o, none⟩) R cc]
section
variable {W0 W : World} {q t X Y R b o cc : Nat} {s d : ByteArray} {w w' : World}
theorem MS.step (h : MS W0 W q t X Y R b o cc s d w) (hb : Below w.heap.size w w') : MS W0 W q t X Y R b o cc s d w' := ⟨h.bel.trans (hb.mono h.bel.size), h.chg.next (Chg.of hb [q]), h.zt.later hb, h.bx.later hb, h.by_.later hb⟩
theorem MS.cells (h : MS W0 W q t X Y R b o cc s d w) : ∀ w', Below w.heap.size w w' → w'.cell? ⟨X, 0, none⟩ = some (.int .i64 1) ∧ w'.cell? ⟨X, 1, none⟩ = some (.string s) ∧ w'.cell? ⟨X, 2, none⟩ = some (.string d) ∧ w'.cell? ⟨X, 3, none⟩ = some (.string ⟨#[]⟩) ∧ w'.cell? ⟨X, 4, none⟩ = some (.bool false) ∧ w'.cell? ⟨X, 5, none⟩ = some (.int .i64 0) ∧ w'.cell? ⟨X, 6, none⟩ = some (.int .i64 0) ∧ w'.cell? ⟨X, 7, none⟩ = some (.int .i64 0) ∧ w'.cell? ⟨X, 8, none⟩ = some (.slice none 0 0) ∧ w'.cell? ⟨Y, 0, none⟩ = some (.int .i64 5) ∧ w'.cell? ⟨Y, 1, none⟩ = some (.string ⟨#[]⟩) ∧ w'.cell? ⟨Y, 2, none⟩ = some (.string ⟨#[]⟩) ∧ w'.cell? ⟨Y, 3, none⟩ = some (.string ⟨#[]⟩) ∧ w'.cell? ⟨Y, 4, none⟩ = some (.bool false) ∧ w'.cell? ⟨Y, 5, none⟩ = some (.int .i64 0) ∧ w'.cell? ⟨Y, 6, none⟩ = some (.int .i64 (R : Int)) ∧ w'.cell? ⟨Y, 7, none⟩ = some (.int .i64 1) ∧ w'.cell? ⟨Y, 8, none⟩ = some (.slice (some ⟨b, o, none⟩) R cc) := fun w' hw => ⟨(h.bx.later hw).cell 0, (h.bx.later hw).cell 1, (h.bx.later hw).cell 2, (h.bx.later hw).cell 3, (h.bx.later hw).cell 4, (h.bx.later hw).cell 5, (h.bx.later hw).cell 6, (h.bx.later hw).cell 7, (h.bx.later hw).cell 8, (h.by_.later hw).cell 0, (h.by_.later hw).cell 1, (h.by_.later hw).cell 2, (h.by_.later hw).cell 3, (h.by_.later hw).cell 4, (h.by_.later hw).cell 5, (h.by_.later hw).cell 6, (h.by_.later hw).cell 7, (h.by_.later hw).cell 8⟩
end
set_option maxRecDepth 100000 in
set_option maxHeartbeats 16000000 in
/-- MATCH. -/
theorem fMa_any (B0 W0 W : World) (q : Nat) (A : Option Addr) (c : Nat) (u : Vl) (R : Nat) (v : Nat → Nat) (s d : ByteArray) (he : VEnv W0) (h0 : Below W0.heap.size W0 W) (hq0 : W0.heap.size ≤ q) (hq : Blk W q 90 #[.slice A 3 c, .int .i64 0]) (hA : Reads 9 csV W0 (.slice A 3 c) [qV s d, u, nV 0]) (hu : AR W0 u R 1 (nVs R v)) (hv : ∀ i, i < R → v i ≤ 1000) (hR : R ≤ 100) (h2 : GN s d) (hex : ∃ i, i < R ∧ eqF v s d i = true) :
    Calls Tryz.prog 29 #[.pointer (some ⟨q, 0, none⟩)] W (ResG B0 W [q] (PhM R v s d)) := by
  obtain ⟨A2, n2, cc, rfl, hn, hr⟩ := hu.ex
  have r1 := hu.r1
  have hn2 : n2 = R := by rw [hn, Nat.mul_one]
  subst hn2
  obtain ⟨b, o, rfl⟩ : ∃ b o, A2 = some ⟨b, o, none⟩ := by
    obtain ⟨A', c', e, -, -, h3⟩ := hr
    injection e with e1 e2 e3
    obtain ⟨b, o, e4, -⟩ := h3 (by rw [nVs_len]; omega)
    exact ⟨b, o, e1.trans e4⟩
  generalize n2 = R at *
  have HWA := Lib.hid (show Calls Tryz.prog 76 #[.pointer (some ⟨q, 0, none⟩)] (W.alloc (.cells #[.int .i64 0, .string ⟨#[]⟩, .string ⟨#[]⟩, .string ⟨#[]⟩, .bool false, .int .i64 0, .int .i64 0, .int .i64 0, .slice none 0 0] 27)) fun e w' => e = .returned (.agg #[.int .i64 1, .string s, .string d, .string ⟨#[]⟩, .bool false, .int .i64 0, .int .i64 0, .int .i64 0, .slice none 0 0]) ∧ Blk w' q 90 #[.slice A 3 c, .int .i64 (((0 : Nat) : Int) + 1)] ∧ Below W0.heap.size W0 w' ∧ Chg (W.alloc (.cells #[.int .i64 0, .string ⟨#[]⟩, .string ⟨#[]⟩, .string ⟨#[]⟩, .bool false, .int .i64 0, .int .i64 0, .int .i64 0, .slice none 0 0] 27)).heap.size [q] (W.alloc (.cells #[.int .i64 0, .string ⟨#[]⟩, .string ⟨#[]⟩, .string ⟨#[]⟩, .bool false, .int .i64 0, .int .i64 0, .int .i64 0, .slice none 0 0] 27)) w' from wanted_b W0 (W.alloc (.cells #[.int .i64 0, .string ⟨#[]⟩, .string ⟨#[]⟩, .string ⟨#[]⟩, .bool false, .int .i64 0, .int .i64 0, .int .i64 0, .slice none 0 0] 27)) q A 3 c 0 _ s d (h0.trans ((below_al W _).mono h0.size)) hq0 (hq.alloc _) hA (by decide) (by decide) rfl)
  have HVA := Lib.hid (show ∀ w, Below W0.heap.size W0 w → Blk w q 90 #[.slice A 3 c, .int .i64 (((0 : Nat) : Int) + 1)] → Calls Tryz.prog 39 #[.pointer (some ⟨q, 0, none⟩)] w fun e w' => e = .returned (.agg #[.int .i64 5, .string ⟨#[]⟩, .string ⟨#[]⟩, .string ⟨#[]⟩, .bool false, .int .i64 0, .int .i64 (R : Int), .int .i64 1, .slice (some ⟨b, o, none⟩) R cc]) ∧ Blk w' q 90 #[.slice A 3 c, .int .i64 (((1 : Nat) : Int) + 1)] ∧ Below W0.heap.size W0 w' ∧ Chg w.heap.size [q] w w' from fun w hw hb => value_b W0 w q A 3 c 1 _ hw hq0 hb hA (by decide) (by decide))
  have HWO := Lib.hid (show ∀ w, Below W0.heap.size W0 w → Blk w q 90 #[.slice A 3 c, .int .i64 (((1 : Nat) : Int) + 1)] → Calls Tryz.prog 77 #[.pointer (some ⟨q, 0, none⟩), .int .i64 1] w fun e w' => e = .returned (.int .i64 0) ∧ Below W0.heap.size W0 w' ∧ Chg w.heap.size [q] w w' from fun w hw hb => (wor_k 1 W0 w q A 3 c 2 0 _ hw hq0 hb hA (by decide) (by decide) rfl he (by decide)).mono fun e w' hh => ⟨hh.1, hh.2.2.1, hh.2.2.2⟩)
  have HPO := Lib.hid (show ∀ w, Below W0.heap.size W0 w → Calls Tryz.prog 78 #[.slice (some ⟨b, o, none⟩) R cc, .agg #[.int .i64 1, .string s, .string d, .string ⟨#[]⟩, .bool false, .int .i64 0, .int .i64 0, .int .i64 0, .slice none 0 0], .int .i64 0] w fun e w' => ∃ i : Nat, e = .returned (.int .i64 (i : Int)) ∧ i < R ∧ eqF v s d i = true ∧ Below w.heap.size w w' from fun w hw => pos_any R b o cc v s d w (he.below hw) (by omega) hv (hr.below hw) h2 hex)
  have HWS := Lib.hid fun (i : Nat) w (hi : i < R) (hw : Below W0.heap.size W0 w) => whole_s i W0 w he (by omega) hw
  have HLI := Lib.hid fun W' => (show Calls Tryz.prog 79 #[.agg #[.int .i64 5, .string ⟨#[]⟩, .string ⟨#[]⟩, .string ⟨#[]⟩, .bool false, .int .i64 0, .int .i64 (R : Int), .int .i64 1, .slice (some ⟨b, o, none⟩) R cc]] W' fun e w' => e = .returned (.slice (some ⟨b, o, none⟩) R cc) ∧ Below W'.heap.size W' w' from line_c R (some ⟨b, o, none⟩) R cc W')
  obtain ⟨t, ht⟩ : ∃ t, t = W.heap.size := ⟨_, rfl⟩
  have HRz := Lib.hid (Blk.new W 27 #[.int .i64 0, .string ⟨#[]⟩, .string ⟨#[]⟩, .string ⟨#[]⟩, .bool false, .int .i64 0, .int .i64 0, .int .i64 0, .slice none 0 0])
  rw [← ht] at HRz
  have hqt : q < t := by have := hq.lt; omega
  have htq : t ∉ [q] := fun h => by
    rw [List.mem_singleton] at h
    omega
  have HTQ := Lib.hid htq
  have HTS := Lib.hid (show t < (W.alloc (.cells #[.int .i64 0, .string ⟨#[]⟩, .string ⟨#[]⟩, .string ⟨#[]⟩, .bool false, .int .i64 0, .int .i64 0, .int .i64 0, .slice none 0 0] 27)).heap.size from by rw [ht]; simp)
  have HH := Lib.hid ht
  clear htq hr h0 hq hA hu hn he hv h2 hex
  go_enter Tryz.func29, Tryz.ntmps29
  go_upto_region 1 with fail
  rw [← ht]
  clear ht
  go_upto_region 2 with (first
    | (go_at_call 76; (with_reducible refine HWA.out.mono ?_); rintro e w1 ⟨rfl, hq1, hb, hc⟩; have HQ1 := Lib.hid hq1; have HB1 := Lib.hid hb; have HC1 := Lib.hid ((Chg.of (below_al W _) [q]).next hc); have HRa := Lib.hid (hc.blk HRz.out HTS.out HTQ.out); clear hq1 hb hc HRz)
    | (go_at_call 39; (with_reducible refine (HVA.out _ HB1.out HQ1.out).mono ?_); rintro e w2 ⟨rfl, hq1, hb, hc⟩; have HQ2 := Lib.hid hq1; have HB2 := Lib.hid hb; have HC2 := Lib.hid (HC1.out.next hc); have HRb := Lib.hid (hc.blk HRa.out HRa.out.lt HTQ.out); clear hq1 hb hc HRa HQ1 HB1 HC1))
  have hba := (below_al w2 (.cells #[.int .i64 1, .string s, .string d, .string ⟨#[]⟩, .bool false, .int .i64 0, .int .i64 0, .int .i64 0, .slice none 0 0] 27)).trans ((below_al (w2.alloc (.cells #[.int .i64 1, .string s, .string d, .string ⟨#[]⟩, .bool false, .int .i64 0, .int .i64 0, .int .i64 0, .slice none 0 0] 27)) (.cells #[.int .i64 5, .string ⟨#[]⟩, .string ⟨#[]⟩, .string ⟨#[]⟩, .bool false, .int .i64 0, .int .i64 (R : Int), .int .i64 1, .slice (some ⟨b, o, none⟩) R cc] 27)).mono (by simp))
  have HQ3 := Lib.hid (HQ2.out.later hba)
  have HM := Lib.hid (show MS W0 W q t w2.heap.size (w2.heap.size + 1) R b o cc s d ((w2.alloc (.cells #[.int .i64 1, .string s, .string d, .string ⟨#[]⟩, .bool false, .int .i64 0, .int .i64 0, .int .i64 0, .slice none 0 0] 27)).alloc (.cells #[.int .i64 5, .string ⟨#[]⟩, .string ⟨#[]⟩, .string ⟨#[]⟩, .bool false, .int .i64 0, .int .i64 (R : Int), .int .i64 1, .slice (some ⟨b, o, none⟩) R cc] 27)) from ⟨HB2.out.trans (hba.mono HB2.out.size), HC2.out.next (Chg.of hba [q]), HRb.out.later hba, (Blk.new w2 27 #[.int .i64 1, .string s, .string d, .string ⟨#[]⟩, .bool false, .int .i64 0, .int .i64 0, .int .i64 0, .slice none 0 0]).alloc _, by have h := Blk.new (w2.alloc (.cells #[.int .i64 1, .string s, .string d, .string ⟨#[]⟩, .bool false, .int .i64 0, .int .i64 0, .int .i64 0, .slice none 0 0] 27)) 27 #[.int .i64 5, .string ⟨#[]⟩, .string ⟨#[]⟩, .string ⟨#[]⟩, .bool false, .int .i64 0, .int .i64 (R : Int), .int .i64 1, .slice (some ⟨b, o, none⟩) R cc]; rw [show (w2.alloc (.cells #[.int .i64 1, .string s, .string d, .string ⟨#[]⟩, .bool false, .int .i64 0, .int .i64 0, .int .i64 0, .slice none 0 0] 27)).heap.size = w2.heap.size + 1 by simp] at h; exact h⟩)
  have HXT := Lib.hid (show t < w2.heap.size from HRb.out.lt)
  clear HB2 HC2 HRb HQ2 hba
  revert HM HQ3 HXT
  generalize (w2.alloc (.cells #[.int .i64 1, .string s, .string d, .string ⟨#[]⟩, .bool false, .int .i64 0, .int .i64 0, .int .i64 0, .slice none 0 0] 27)).alloc (.cells #[.int .i64 5, .string ⟨#[]⟩, .string ⟨#[]⟩, .string ⟨#[]⟩, .bool false, .int .i64 0, .int .i64 (R : Int), .int .i64 1, .slice (some ⟨b, o, none⟩) R cc] 27) = w3
  generalize w2.heap.size = X
  intro HQ3 HM HXT
  go_upto_region 3 with (go_at_call 77; go_loud ((with_reducible refine (HWO.out _ HM.out.bel HQ3.out).mono ?_); rintro e w4 ⟨rfl, hb, hc⟩; have HM4 := Lib.hid (show MS W0 W q t X (X + 1) R b o cc s d w4 from ⟨hb, HM.out.chg.next hc, hc.blk HM.out.zt HM.out.zt.lt HTQ.out, hc.blk HM.out.bx HM.out.bx.lt (by rw [List.mem_singleton]; have := HXT.out; omega), hc.blk HM.out.by_ HM.out.by_.lt (by rw [List.mem_singleton]; have := HXT.out; omega)⟩); clear hb hc HM HQ3))
  have HSC := Lib.hid HM4.out.cells
  have HB0 := Lib.hid (Below.refl w4.heap.size w4)
  obtain ⟨x0, x1, x2, x3, x4, x5, x6, x7, x8, y0, y1, y2, y3, y4, y5, y6, y7, y8⟩ := HSC.out _ HB0.out
  refine wp_region_G (S1 := fun _ => True) (S2 := fun w' => w'.cell? ⟨X, 0, none⟩ = some (.int .i64 1) ∧ w'.cell? ⟨X, 1, none⟩ = some (.string s) ∧ w'.cell? ⟨X, 2, none⟩ = some (.string d) ∧ w'.cell? ⟨X, 3, none⟩ = some (.string ⟨#[]⟩) ∧ w'.cell? ⟨X, 4, none⟩ = some (.bool false) ∧ w'.cell? ⟨X, 5, none⟩ = some (.int .i64 0) ∧ w'.cell? ⟨X, 6, none⟩ = some (.int .i64 0) ∧ w'.cell? ⟨X, 7, none⟩ = some (.int .i64 0) ∧ w'.cell? ⟨X, 8, none⟩ = some (.slice none 0 0) ∧ w'.cell? ⟨X + 1, 0, none⟩ = some (.int .i64 5) ∧ w'.cell? ⟨X + 1, 1, none⟩ = some (.string ⟨#[]⟩) ∧ w'.cell? ⟨X + 1, 2, none⟩ = some (.string ⟨#[]⟩) ∧ w'.cell? ⟨X + 1, 3, none⟩ = some (.string ⟨#[]⟩) ∧ w'.cell? ⟨X + 1, 4, none⟩ = some (.bool false) ∧ w'.cell? ⟨X + 1, 5, none⟩ = some (.int .i64 0) ∧ w'.cell? ⟨X + 1, 6, none⟩ = some (.int .i64 (R : Int)) ∧ w'.cell? ⟨X + 1, 7, none⟩ = some (.int .i64 1) ∧ w'.cell? ⟨X + 1, 8, none⟩ = some (.slice (some ⟨b, o, none⟩) R cc)) (d := 7) (by kernel_rfl) trivial (HSC.out _ HB0.out.drew) (fun hT => ?_)
  refine wpAnyG_take2d (i := 0) (v := ?_) rfl rfl (by kernel_rfl) (by kernel_rfl) (by kernel_rfl) (by kernel_rfl) (by kernel_rfl) (by kernel_rfl) (fun _ _ _ h => h) (Or.inl ⟨by rfl, ?_⟩) (by assumption) (fun hT => ?_)
  rotate_left
  · intro w hSw
    (try dsimp only at hSw)
    go_simp
    (try with_reducible rfl)
  (try simp only [Act.put, List.setIfInBounds_toArray, List.set_cons_zero, List.set_cons_succ])
  refine wpAnyG_take2d (i := 2) (v := ?_) rfl rfl (by kernel_rfl) (by kernel_rfl) (by kernel_rfl) (by kernel_rfl) (by kernel_rfl) (by kernel_rfl) (fun _ _ _ h => h) (Or.inl ⟨by rfl, ?_⟩) (by assumption) (fun hT => ?_)
  rotate_left
  · intro w hSw
    (try dsimp only at hSw)
    go_simp
    (try with_reducible rfl)
  (try simp only [Act.put, List.setIfInBounds_toArray, List.set_cons_zero, List.set_cons_succ])
  refine wpAnyG_take1d (i := 3) (v := ?_) rfl rfl (by kernel_rfl) (by kernel_rfl) (by kernel_rfl) (by kernel_rfl) (fun _ _ _ h => h) (Or.inl ⟨by rfl, ?_⟩) (by assumption) (fun hT => ?_)
  rotate_left
  · intro w hSw
    (try dsimp only at hSw)
    go_simp
    (try with_reducible rfl)
  (try simp only [Act.put, List.setIfInBounds_toArray, List.set_cons_zero, List.set_cons_succ])
  refine wpAnyG_ready (rs := [1]) (by kernel_rfl) (by simp) ?_
  refine AllG.cons (i := 1) rfl (fun K hK => ?_) AllG.nil
  go_simp
  go_at_call 79
  (with_reducible refine (HLI.out _).mono ?_)
  rintro e w5 ⟨rfl, hb⟩
  have HB1 := Lib.hid (HB0.out.drew.trans hb)
  clear hb
  refine hK.out _ _ ⟨trivial, .inr (HSC.out _ HB1.out)⟩ (fun hT => ?_)
  clear hK K
  (try simp only [Act.put, List.setIfInBounds_toArray, List.set_cons_zero, List.set_cons_succ])
  refine wpAnyG_ready (rs := [4]) (by kernel_rfl) (by simp) ?_
  refine AllG.cons (i := 4) rfl (fun K hK => ?_) AllG.nil
  go_simp
  go_at_call 78
  (with_reducible refine (HPO.out _ (HM4.out.step HB1.out).bel).mono ?_)
  rintro e w6 ⟨i, rfl, hi, hp, hb⟩
  have HPP := Lib.hid hp
  have HB2 := Lib.hid (HB1.out.trans (hb.mono HB1.out.size))
  have i1 : IntKind.i64.wrap ((i : Int) + 1) = (i : Int) + 1 := IntWalk.i64_in _ (by omega)
  clear hb hp
  refine hK.out _ _ ⟨trivial, .inr (HSC.out _ HB2.out)⟩ (fun hT => ?_)
  clear hK K
  (try simp only [Act.put, List.setIfInBounds_toArray, List.set_cons_zero, List.set_cons_succ])
  refine wpAnyG_take1d (i := 5) (v := ?_) rfl rfl (by kernel_rfl) (by kernel_rfl) (by kernel_rfl) (by kernel_rfl) (fun _ _ _ h => h) (Or.inl ⟨by rfl, ?_⟩) (by assumption) (fun hT => ?_)
  rotate_left
  · intro w hSw
    (try dsimp only at hSw)
    go_simp
    (try with_reducible rfl)
  (try simp only [Act.put, List.setIfInBounds_toArray, List.set_cons_zero, List.set_cons_succ])
  refine wpAnyG_ready (rs := [6]) (by kernel_rfl) (by simp) ?_
  refine AllG.cons (i := 6) rfl (fun K hK => ?_) AllG.nil
  go_simp
  go_at_call 12
  (with_reducible refine (HWS.out i _ hi (HM4.out.step HB2.out).bel).mono ?_)
  rintro e w7 ⟨rfl, hb⟩
  have HB3 := Lib.hid (HB2.out.trans (hb.mono HB2.out.size))
  have HT := Lib.hid (HM4.out.step HB3.out).zt
  have HC7 := Lib.hid (HM4.out.step HB3.out).chg
  clear hb
  obtain ⟨f0, f1, f2, f3, f4, f5, f6, f7, f8⟩ := HT.out.ninef
  obtain ⟨z0, z1, z2, z3, z4, z5, z6, z7, z8⟩ := HT.out.nine
  refine hK.out _ _ ⟨trivial, .inr (HSC.out _ HB3.out)⟩ (fun hT => ?_)
  clear hK K
  (try simp only [Act.put, List.setIfInBounds_toArray, List.set_cons_zero, List.set_cons_succ])
  refine wpAnyG_ready (rs := [7]) (by kernel_rfl) (by simp) ?_
  refine AllG.cons (i := 7) rfl (fun K hK => ?_) AllG.nil
  go_simp
  refine hK.out _ _ ⟨trivial, .inl rfl⟩ (fun hT => ?_)
  clear hK K
  (try simp only [Act.put, List.setIfInBounds_toArray, List.set_cons_zero, List.set_cons_succ])
  refine wpAnyG_done (by kernel_rfl) ?_ _
  clear f0 f1 f2 f3 f4 f5 f6 f7 f8 z0 z1 z2 z3 z4 z5 z6 z7 z8 x0 x1 x2 x3 x4 x5 x6 x7 x8 y0 y1 y2 y3 y4 y5 y6 y7 y8
  go_upto_region 99 with fail
  obtain ⟨q0, q1, q2, q3, q4, q5, q6, q7, q8⟩ := (HT.out.nine_set (.int .i64 1) (.string (nt (i + 1))) (.string ⟨#[49]⟩) (.string ⟨#[]⟩) (.bool false) (.int .i64 0) (.int .i64 0) (.int .i64 0) (.slice none 0 0)).1.nine
  have hcn := chg_nine w7 t (.int .i64 1) (.string (nt (i + 1))) (.string ⟨#[49]⟩) (.string ⟨#[]⟩) (.bool false) (.int .i64 0) (.int .i64 0) (.int .i64 0) (.slice none 0 0)
  exact bodyPost_ret (v := .agg #[.int .i64 1, .string (nt (i + 1)), .string ⟨#[49]⟩, .string ⟨#[]⟩, .bool false, .int .i64 0, .int .i64 0, .int .i64 0, .slice none 0 0]) (by simp [results, Tryz.results29, go_sem, q0, q1, q2, q3, q4, q5, q6, q7, q8]) rfl ⟨1, (nt (i + 1)), ⟨#[49]⟩, ⟨#[]⟩, false, 0, 0, 0, none, 0, 0, [], rfl, ⟨rfl, i, hi, HPP.out, rfl⟩, reads_nil _, (fun b o e => by cases e), HC7.out.trans (hcn.mono HC7.out.size fun x hx => .inr (by rw [List.mem_singleton.1 hx, HH.out]; exact Nat.le_refl _))⟩
set_option maxRecDepth 100000 in
set_option maxHeartbeats 16000000 in
/-- XMATCH. -/
theorem fXm_any (B0 W0 W : World) (q : Nat) (A : Option Addr) (c : Nat) (u : Vl) (R : Nat) (v : Nat → Nat) (s d : ByteArray) (he : VEnv W0) (h0 : Below W0.heap.size W0 W) (hq0 : W0.heap.size ≤ q) (hq : Blk W q 90 #[.slice A 2 c, .int .i64 0]) (hA : Reads 9 csV W0 (.slice A 2 c) [qV s d, u]) (hu : AR W0 u R 1 (nVs R v)) (hv : ∀ i, i < R → v i ≤ 1000) (hR : R ≤ 100) (h2 : GN s d) (hex : ∃ i, i < R ∧ eqF v s d i = true) :
    Calls Tryz.prog 30 #[.pointer (some ⟨q, 0, none⟩)] W (ResG B0 W [q] (PhM R v s d)) := by
  obtain ⟨A2, n2, cc, rfl, hn, hr⟩ := hu.ex
  have r1 := hu.r1
  have hn2 : n2 = R := by rw [hn, Nat.mul_one]
  subst hn2
  obtain ⟨b, o, rfl⟩ : ∃ b o, A2 = some ⟨b, o, none⟩ := by
    obtain ⟨A', c', e, -, -, h3⟩ := hr
    injection e with e1 e2 e3
    obtain ⟨b, o, e4, -⟩ := h3 (by rw [nVs_len]; omega)
    exact ⟨b, o, e1.trans e4⟩
  generalize n2 = R at *
  have HWA := Lib.hid (show Calls Tryz.prog 76 #[.pointer (some ⟨q, 0, none⟩)] (W.alloc (.cells #[.int .i64 0, .string ⟨#[]⟩, .string ⟨#[]⟩, .string ⟨#[]⟩, .bool false, .int .i64 0, .int .i64 0, .int .i64 0, .slice none 0 0] 27)) fun e w' => e = .returned (.agg #[.int .i64 1, .string s, .string d, .string ⟨#[]⟩, .bool false, .int .i64 0, .int .i64 0, .int .i64 0, .slice none 0 0]) ∧ Blk w' q 90 #[.slice A 2 c, .int .i64 (((0 : Nat) : Int) + 1)] ∧ Below W0.heap.size W0 w' ∧ Chg (W.alloc (.cells #[.int .i64 0, .string ⟨#[]⟩, .string ⟨#[]⟩, .string ⟨#[]⟩, .bool false, .int .i64 0, .int .i64 0, .int .i64 0, .slice none 0 0] 27)).heap.size [q] (W.alloc (.cells #[.int .i64 0, .string ⟨#[]⟩, .string ⟨#[]⟩, .string ⟨#[]⟩, .bool false, .int .i64 0, .int .i64 0, .int .i64 0, .slice none 0 0] 27)) w' from wanted_b W0 (W.alloc (.cells #[.int .i64 0, .string ⟨#[]⟩, .string ⟨#[]⟩, .string ⟨#[]⟩, .bool false, .int .i64 0, .int .i64 0, .int .i64 0, .slice none 0 0] 27)) q A 2 c 0 _ s d (h0.trans ((below_al W _).mono h0.size)) hq0 (hq.alloc _) hA (by decide) (by decide) rfl)
  have HVA := Lib.hid (show ∀ w, Below W0.heap.size W0 w → Blk w q 90 #[.slice A 2 c, .int .i64 (((0 : Nat) : Int) + 1)] → Calls Tryz.prog 39 #[.pointer (some ⟨q, 0, none⟩)] w fun e w' => e = .returned (.agg #[.int .i64 5, .string ⟨#[]⟩, .string ⟨#[]⟩, .string ⟨#[]⟩, .bool false, .int .i64 0, .int .i64 (R : Int), .int .i64 1, .slice (some ⟨b, o, none⟩) R cc]) ∧ Blk w' q 90 #[.slice A 2 c, .int .i64 (((1 : Nat) : Int) + 1)] ∧ Below W0.heap.size W0 w' ∧ Chg w.heap.size [q] w w' from fun w hw hb => value_b W0 w q A 2 c 1 _ hw hq0 hb hA (by decide) (by decide))
  have HWO := Lib.hid (show ∀ w, Below W0.heap.size W0 w → Blk w q 90 #[.slice A 2 c, .int .i64 (((1 : Nat) : Int) + 1)] → Calls Tryz.prog 77 #[.pointer (some ⟨q, 0, none⟩), .int .i64 0] w fun e w' => e = .returned (.int .i64 0) ∧ Below W0.heap.size W0 w' ∧ Chg w.heap.size [q] w w' from fun w hw hb => (wor_0 0 q A 2 c w hb).mono fun e w' hh => ⟨hh.1, hw.trans (hh.2.mono hw.size), Chg.of hh.2 [q]⟩)
  have HPO := Lib.hid (show ∀ w, Below W0.heap.size W0 w → Calls Tryz.prog 80 #[.slice (some ⟨b, o, none⟩) R cc, .agg #[.int .i64 1, .string s, .string d, .string ⟨#[]⟩, .bool false, .int .i64 0, .int .i64 0, .int .i64 0, .slice none 0 0], .int .i64 0] w fun e w' => ∃ i : Nat, e = .returned (.int .i64 (i : Int)) ∧ i < R ∧ eqF v s d i = true ∧ Below w.heap.size w w' from fun w hw => (found_any R b o cc v s d w (he.below hw) (by omega) hv (hr.below hw) h2).mono fun e w' hh => by
    obtain ⟨r, h1, h3, h4⟩ := hh
    rcases h3 with ⟨-, hn⟩ | ⟨i, rfl, h5, h6, -⟩
    · obtain ⟨i, hi, hp⟩ := hex
      rw [hn i hi] at hp
      cases hp
    · exact ⟨i, h1, h5, h6, h4⟩)
  have HWS := Lib.hid fun (i : Nat) w (hi : i < R) (hw : Below W0.heap.size W0 w) => whole_s i W0 w he (by omega) hw
  have HLI := Lib.hid fun W' => (show Calls Tryz.prog 79 #[.agg #[.int .i64 5, .string ⟨#[]⟩, .string ⟨#[]⟩, .string ⟨#[]⟩, .bool false, .int .i64 0, .int .i64 (R : Int), .int .i64 1, .slice (some ⟨b, o, none⟩) R cc]] W' fun e w' => e = .returned (.slice (some ⟨b, o, none⟩) R cc) ∧ Below W'.heap.size W' w' from line_c R (some ⟨b, o, none⟩) R cc W')
  obtain ⟨t, ht⟩ : ∃ t, t = W.heap.size := ⟨_, rfl⟩
  have HRz := Lib.hid (Blk.new W 27 #[.int .i64 0, .string ⟨#[]⟩, .string ⟨#[]⟩, .string ⟨#[]⟩, .bool false, .int .i64 0, .int .i64 0, .int .i64 0, .slice none 0 0])
  rw [← ht] at HRz
  have hqt : q < t := by have := hq.lt; omega
  have htq : t ∉ [q] := fun h => by
    rw [List.mem_singleton] at h
    omega
  have HTQ := Lib.hid htq
  have HTS := Lib.hid (show t < (W.alloc (.cells #[.int .i64 0, .string ⟨#[]⟩, .string ⟨#[]⟩, .string ⟨#[]⟩, .bool false, .int .i64 0, .int .i64 0, .int .i64 0, .slice none 0 0] 27)).heap.size from by rw [ht]; simp)
  have HH := Lib.hid ht
  clear htq hr h0 hq hA hu hn he hv h2 hex
  go_enter Tryz.func30, Tryz.ntmps30
  go_upto_region 1 with fail
  rw [← ht]
  clear ht
  go_upto_region 2 with (first
    | (go_at_call 76; (with_reducible refine HWA.out.mono ?_); rintro e w1 ⟨rfl, hq1, hb, hc⟩; have HQ1 := Lib.hid hq1; have HB1 := Lib.hid hb; have HC1 := Lib.hid ((Chg.of (below_al W _) [q]).next hc); have HRa := Lib.hid (hc.blk HRz.out HTS.out HTQ.out); clear hq1 hb hc HRz)
    | (go_at_call 39; (with_reducible refine (HVA.out _ HB1.out HQ1.out).mono ?_); rintro e w2 ⟨rfl, hq1, hb, hc⟩; have HQ2 := Lib.hid hq1; have HB2 := Lib.hid hb; have HC2 := Lib.hid (HC1.out.next hc); have HRb := Lib.hid (hc.blk HRa.out HRa.out.lt HTQ.out); clear hq1 hb hc HRa HQ1 HB1 HC1))
  have hba := (below_al w2 (.cells #[.int .i64 1, .string s, .string d, .string ⟨#[]⟩, .bool false, .int .i64 0, .int .i64 0, .int .i64 0, .slice none 0 0] 27)).trans ((below_al (w2.alloc (.cells #[.int .i64 1, .string s, .string d, .string ⟨#[]⟩, .bool false, .int .i64 0, .int .i64 0, .int .i64 0, .slice none 0 0] 27)) (.cells #[.int .i64 5, .string ⟨#[]⟩, .string ⟨#[]⟩, .string ⟨#[]⟩, .bool false, .int .i64 0, .int .i64 (R : Int), .int .i64 1, .slice (some ⟨b, o, none⟩) R cc] 27)).mono (by simp))
  have HQ3 := Lib.hid (HQ2.out.later hba)
  have HM := Lib.hid (show MS W0 W q t w2.heap.size (w2.heap.size + 1) R b o cc s d ((w2.alloc (.cells #[.int .i64 1, .string s, .string d, .string ⟨#[]⟩, .bool false, .int .i64 0, .int .i64 0, .int .i64 0, .slice none 0 0] 27)).alloc (.cells #[.int .i64 5, .string ⟨#[]⟩, .string ⟨#[]⟩, .string ⟨#[]⟩, .bool false, .int .i64 0, .int .i64 (R : Int), .int .i64 1, .slice (some ⟨b, o, none⟩) R cc] 27)) from ⟨HB2.out.trans (hba.mono HB2.out.size), HC2.out.next (Chg.of hba [q]), HRb.out.later hba, (Blk.new w2 27 #[.int .i64 1, .string s, .string d, .string ⟨#[]⟩, .bool false, .int .i64 0, .int .i64 0, .int .i64 0, .slice none 0 0]).alloc _, by have h := Blk.new (w2.alloc (.cells #[.int .i64 1, .string s, .string d, .string ⟨#[]⟩, .bool false, .int .i64 0, .int .i64 0, .int .i64 0, .slice none 0 0] 27)) 27 #[.int .i64 5, .string ⟨#[]⟩, .string ⟨#[]⟩, .string ⟨#[]⟩, .bool false, .int .i64 0, .int .i64 (R : Int), .int .i64 1, .slice (some ⟨b, o, none⟩) R cc]; rw [show (w2.alloc (.cells #[.int .i64 1, .string s, .string d, .string ⟨#[]⟩, .bool false, .int .i64 0, .int .i64 0, .int .i64 0, .slice none 0 0] 27)).heap.size = w2.heap.size + 1 by simp] at h; exact h⟩)
  have HXT := Lib.hid (show t < w2.heap.size from HRb.out.lt)
  clear HB2 HC2 HRb HQ2 hba
  revert HM HQ3 HXT
  generalize (w2.alloc (.cells #[.int .i64 1, .string s, .string d, .string ⟨#[]⟩, .bool false, .int .i64 0, .int .i64 0, .int .i64 0, .slice none 0 0] 27)).alloc (.cells #[.int .i64 5, .string ⟨#[]⟩, .string ⟨#[]⟩, .string ⟨#[]⟩, .bool false, .int .i64 0, .int .i64 (R : Int), .int .i64 1, .slice (some ⟨b, o, none⟩) R cc] 27) = w3
  generalize w2.heap.size = X
  intro HQ3 HM HXT
  go_upto_region 3 with (go_at_call 77; go_loud ((with_reducible refine (HWO.out _ HM.out.bel HQ3.out).mono ?_); rintro e w4 ⟨rfl, hb, hc⟩; have HM4 := Lib.hid (show MS W0 W q t X (X + 1) R b o cc s d w4 from ⟨hb, HM.out.chg.next hc, hc.blk HM.out.zt HM.out.zt.lt HTQ.out, hc.blk HM.out.bx HM.out.bx.lt (by rw [List.mem_singleton]; have := HXT.out; omega), hc.blk HM.out.by_ HM.out.by_.lt (by rw [List.mem_singleton]; have := HXT.out; omega)⟩); clear hb hc HM HQ3))
  have HSC := Lib.hid HM4.out.cells
  have HB0 := Lib.hid (Below.refl w4.heap.size w4)
  obtain ⟨x0, x1, x2, x3, x4, x5, x6, x7, x8, y0, y1, y2, y3, y4, y5, y6, y7, y8⟩ := HSC.out _ HB0.out
  go_region_held3 (fun w' => w'.cell? ⟨X, 0, none⟩ = some (.int .i64 1) ∧ w'.cell? ⟨X, 1, none⟩ = some (.string s) ∧ w'.cell? ⟨X, 2, none⟩ = some (.string d) ∧ w'.cell? ⟨X, 3, none⟩ = some (.string ⟨#[]⟩) ∧ w'.cell? ⟨X, 4, none⟩ = some (.bool false) ∧ w'.cell? ⟨X, 5, none⟩ = some (.int .i64 0) ∧ w'.cell? ⟨X, 6, none⟩ = some (.int .i64 0) ∧ w'.cell? ⟨X, 7, none⟩ = some (.int .i64 0) ∧ w'.cell? ⟨X, 8, none⟩ = some (.slice none 0 0) ∧ w'.cell? ⟨X + 1, 0, none⟩ = some (.int .i64 5) ∧ w'.cell? ⟨X + 1, 1, none⟩ = some (.string ⟨#[]⟩) ∧ w'.cell? ⟨X + 1, 2, none⟩ = some (.string ⟨#[]⟩) ∧ w'.cell? ⟨X + 1, 3, none⟩ = some (.string ⟨#[]⟩) ∧ w'.cell? ⟨X + 1, 4, none⟩ = some (.bool false) ∧ w'.cell? ⟨X + 1, 5, none⟩ = some (.int .i64 0) ∧ w'.cell? ⟨X + 1, 6, none⟩ = some (.int .i64 (R : Int)) ∧ w'.cell? ⟨X + 1, 7, none⟩ = some (.int .i64 1) ∧ w'.cell? ⟨X + 1, 8, none⟩ = some (.slice (some ⟨b, o, none⟩) R cc)) (first | exact ⟨by assumption, by assumption, by assumption, by assumption, by assumption, by assumption, by assumption, by assumption, by assumption, by assumption, by assumption, by assumption, by assumption, by assumption, by assumption, by assumption, by assumption, by assumption⟩ | exact HSC.out _ HB3.out | exact HSC.out _ HB2.out | exact HSC.out _ HB1.out) (first
    | (go_at_call 79; (with_reducible refine (HLI.out _).mono ?_); rintro e w5 ⟨rfl, hb⟩; have HB1 := Lib.hid (HB0.out.drew.trans hb); clear hb)
    | (go_at_call 80; (with_reducible refine (HPO.out _ (HM4.out.step HB1.out).bel).mono ?_); rintro e w6 ⟨i, rfl, hi, hp, hb⟩; have HPP := Lib.hid hp; clear hp; have HB2 := Lib.hid (HB1.out.trans (hb.mono HB1.out.size)); clear hb))
  clear x0 x1 x2 x3 x4 x5 x6 x7 x8 y0 y1 y2 y3 y4 y5 y6 y7 y8
  have i1 : IntKind.i64.wrap ((i : Int) + 1) = (i : Int) + 1 := IntWalk.i64_in _ (by omega)
  have hz : decide ((i : Int) < 0) = false := decide_eq_false (by omega)
  have hz2 : ¬ (i : Int) < 0 := by omega
  go_upto_region 99 with (first
    | (go_at_call 81; (try rw [hz]); (with_reducible refine (stop_f _ _).mono ?_); rintro e wq ⟨rfl, rfl⟩)
    | (go_at_call 12; (with_reducible refine (HWS.out i _ hi (HM4.out.step HB2.out).bel).mono ?_); rintro e w7 ⟨rfl, hb⟩; have HB3 := Lib.hid (HB2.out.trans (hb.mono HB2.out.size)); have HT := Lib.hid (HM4.out.step HB3.out).zt; have HC7 := Lib.hid (HM4.out.step HB3.out).chg; clear hb; obtain ⟨f0, f1, f2, f3, f4, f5, f6, f7, f8⟩ := HT.out.ninef; obtain ⟨z0, z1, z2, z3, z4, z5, z6, z7, z8⟩ := HT.out.nine))
  clear f0 f1 f2 f3 f4 f5 f6 f7 f8 z0 z1 z2 z3 z4 z5 z6 z7 z8
  obtain ⟨q0, q1, q2, q3, q4, q5, q6, q7, q8⟩ := (HT.out.nine_set (.int .i64 1) (.string (nt (i + 1))) (.string ⟨#[49]⟩) (.string ⟨#[]⟩) (.bool false) (.int .i64 0) (.int .i64 0) (.int .i64 0) (.slice none 0 0)).1.nine
  have hcn := chg_nine w7 t (.int .i64 1) (.string (nt (i + 1))) (.string ⟨#[49]⟩) (.string ⟨#[]⟩) (.bool false) (.int .i64 0) (.int .i64 0) (.int .i64 0) (.slice none 0 0)
  exact bodyPost_ret (v := .agg #[.int .i64 1, .string (nt (i + 1)), .string ⟨#[49]⟩, .string ⟨#[]⟩, .bool false, .int .i64 0, .int .i64 0, .int .i64 0, .slice none 0 0]) (by simp [results, Tryz.results30, go_sem, q0, q1, q2, q3, q4, q5, q6, q7, q8]) rfl ⟨1, (nt (i + 1)), ⟨#[49]⟩, ⟨#[]⟩, false, 0, 0, 0, none, 0, 0, [], rfl, ⟨rfl, i, hi, HPP.out, rfl⟩, reads_nil _, (fun b o e => by cases e), HC7.out.trans (hcn.mono HC7.out.size fun x hx => .inr (by rw [List.mem_singleton.1 hx, HH.out]; exact Nat.le_refl _))⟩
set_option maxRecDepth 100000 in
set_option maxHeartbeats 16000000 in
/-- XMATCH of what is not there. -/
theorem fXm_no (B0 W0 W : World) (q : Nat) (A : Option Addr) (c : Nat) (u : Vl) (R : Nat) (v : Nat → Nat) (s d : ByteArray) (he : VEnv W0) (h0 : Below W0.heap.size W0 W) (hq0 : W0.heap.size ≤ q) (hq : Blk W q 90 #[.slice A 2 c, .int .i64 0]) (hA : Reads 9 csV W0 (.slice A 2 c) [qV s d, u]) (hu : AR W0 u R 1 (nVs R v)) (hv : ∀ i, i < R → v i ≤ 1000) (hR : R ≤ 100) (h2 : GN s d) (hno : ∀ i, i < R → eqF v s d i = false) :
    Calls Tryz.prog 30 #[.pointer (some ⟨q, 0, none⟩)] W (PanP 6 W [q]) := by
  obtain ⟨A2, n2, cc, rfl, hn, hr⟩ := hu.ex
  have r1 := hu.r1
  have hn2 : n2 = R := by rw [hn, Nat.mul_one]
  subst hn2
  obtain ⟨b, o, rfl⟩ : ∃ b o, A2 = some ⟨b, o, none⟩ := by
    obtain ⟨A', c', e, -, -, h3⟩ := hr
    injection e with e1 e2 e3
    obtain ⟨b, o, e4, -⟩ := h3 (by rw [nVs_len]; omega)
    exact ⟨b, o, e1.trans e4⟩
  generalize n2 = R at *
  have HWA := Lib.hid (show Calls Tryz.prog 76 #[.pointer (some ⟨q, 0, none⟩)] (W.alloc (.cells #[.int .i64 0, .string ⟨#[]⟩, .string ⟨#[]⟩, .string ⟨#[]⟩, .bool false, .int .i64 0, .int .i64 0, .int .i64 0, .slice none 0 0] 27)) fun e w' => e = .returned (.agg #[.int .i64 1, .string s, .string d, .string ⟨#[]⟩, .bool false, .int .i64 0, .int .i64 0, .int .i64 0, .slice none 0 0]) ∧ Blk w' q 90 #[.slice A 2 c, .int .i64 (((0 : Nat) : Int) + 1)] ∧ Below W0.heap.size W0 w' ∧ Chg (W.alloc (.cells #[.int .i64 0, .string ⟨#[]⟩, .string ⟨#[]⟩, .string ⟨#[]⟩, .bool false, .int .i64 0, .int .i64 0, .int .i64 0, .slice none 0 0] 27)).heap.size [q] (W.alloc (.cells #[.int .i64 0, .string ⟨#[]⟩, .string ⟨#[]⟩, .string ⟨#[]⟩, .bool false, .int .i64 0, .int .i64 0, .int .i64 0, .slice none 0 0] 27)) w' from wanted_b W0 (W.alloc (.cells #[.int .i64 0, .string ⟨#[]⟩, .string ⟨#[]⟩, .string ⟨#[]⟩, .bool false, .int .i64 0, .int .i64 0, .int .i64 0, .slice none 0 0] 27)) q A 2 c 0 _ s d (h0.trans ((below_al W _).mono h0.size)) hq0 (hq.alloc _) hA (by decide) (by decide) rfl)
  have HVA := Lib.hid (show ∀ w, Below W0.heap.size W0 w → Blk w q 90 #[.slice A 2 c, .int .i64 (((0 : Nat) : Int) + 1)] → Calls Tryz.prog 39 #[.pointer (some ⟨q, 0, none⟩)] w fun e w' => e = .returned (.agg #[.int .i64 5, .string ⟨#[]⟩, .string ⟨#[]⟩, .string ⟨#[]⟩, .bool false, .int .i64 0, .int .i64 (R : Int), .int .i64 1, .slice (some ⟨b, o, none⟩) R cc]) ∧ Blk w' q 90 #[.slice A 2 c, .int .i64 (((1 : Nat) : Int) + 1)] ∧ Below W0.heap.size W0 w' ∧ Chg w.heap.size [q] w w' from fun w hw hb => value_b W0 w q A 2 c 1 _ hw hq0 hb hA (by decide) (by decide))
  have HWO := Lib.hid (show ∀ w, Below W0.heap.size W0 w → Blk w q 90 #[.slice A 2 c, .int .i64 (((1 : Nat) : Int) + 1)] → Calls Tryz.prog 77 #[.pointer (some ⟨q, 0, none⟩), .int .i64 0] w fun e w' => e = .returned (.int .i64 0) ∧ Below W0.heap.size W0 w' ∧ Chg w.heap.size [q] w w' from fun w hw hb => (wor_0 0 q A 2 c w hb).mono fun e w' hh => ⟨hh.1, hw.trans (hh.2.mono hw.size), Chg.of hh.2 [q]⟩)
  have HPO := Lib.hid (show ∀ w, Below W0.heap.size W0 w → Calls Tryz.prog 80 #[.slice (some ⟨b, o, none⟩) R cc, .agg #[.int .i64 1, .string s, .string d, .string ⟨#[]⟩, .bool false, .int .i64 0, .int .i64 0, .int .i64 0, .slice none 0 0], .int .i64 0] w fun e w' => e = .returned (.int .i64 (-1)) ∧ Below w.heap.size w w' from fun w hw => (found_any R b o cc v s d w (he.below hw) (by omega) hv (hr.below hw) h2).mono fun e w' hh => by
    obtain ⟨r, h1, h3, h4⟩ := hh
    rcases h3 with ⟨rfl, -⟩ | ⟨i, -, h5, h6, -⟩
    · exact ⟨h1, h4⟩
    · rw [hno i h5] at h6
      cases h6)
  have HWS := Lib.hid fun (i : Nat) w (hi : i < R) (hw : Below W0.heap.size W0 w) => whole_s i W0 w he (by omega) hw
  have HLI := Lib.hid fun W' => (show Calls Tryz.prog 79 #[.agg #[.int .i64 5, .string ⟨#[]⟩, .string ⟨#[]⟩, .string ⟨#[]⟩, .bool false, .int .i64 0, .int .i64 (R : Int), .int .i64 1, .slice (some ⟨b, o, none⟩) R cc]] W' fun e w' => e = .returned (.slice (some ⟨b, o, none⟩) R cc) ∧ Below W'.heap.size W' w' from line_c R (some ⟨b, o, none⟩) R cc W')
  obtain ⟨t, ht⟩ : ∃ t, t = W.heap.size := ⟨_, rfl⟩
  have HRz := Lib.hid (Blk.new W 27 #[.int .i64 0, .string ⟨#[]⟩, .string ⟨#[]⟩, .string ⟨#[]⟩, .bool false, .int .i64 0, .int .i64 0, .int .i64 0, .slice none 0 0])
  rw [← ht] at HRz
  have hqt : q < t := by have := hq.lt; omega
  have htq : t ∉ [q] := fun h => by
    rw [List.mem_singleton] at h
    omega
  have HTQ := Lib.hid htq
  have HTS := Lib.hid (show t < (W.alloc (.cells #[.int .i64 0, .string ⟨#[]⟩, .string ⟨#[]⟩, .string ⟨#[]⟩, .bool false, .int .i64 0, .int .i64 0, .int .i64 0, .slice none 0 0] 27)).heap.size from by rw [ht]; simp)
  have HH := Lib.hid ht
  clear htq hr h0 hq hA hu hn he hv h2 hno
  go_enter Tryz.func30, Tryz.ntmps30
  go_upto_region 1 with fail
  rw [← ht]
  clear ht
  go_upto_region 2 with (first
    | (go_at_call 76; (with_reducible refine HWA.out.mono ?_); rintro e w1 ⟨rfl, hq1, hb, hc⟩; have HQ1 := Lib.hid hq1; have HB1 := Lib.hid hb; have HC1 := Lib.hid ((Chg.of (below_al W _) [q]).next hc); have HRa := Lib.hid (hc.blk HRz.out HTS.out HTQ.out); clear hq1 hb hc HRz)
    | (go_at_call 39; (with_reducible refine (HVA.out _ HB1.out HQ1.out).mono ?_); rintro e w2 ⟨rfl, hq1, hb, hc⟩; have HQ2 := Lib.hid hq1; have HB2 := Lib.hid hb; have HC2 := Lib.hid (HC1.out.next hc); have HRb := Lib.hid (hc.blk HRa.out HRa.out.lt HTQ.out); clear hq1 hb hc HRa HQ1 HB1 HC1))
  have hba := (below_al w2 (.cells #[.int .i64 1, .string s, .string d, .string ⟨#[]⟩, .bool false, .int .i64 0, .int .i64 0, .int .i64 0, .slice none 0 0] 27)).trans ((below_al (w2.alloc (.cells #[.int .i64 1, .string s, .string d, .string ⟨#[]⟩, .bool false, .int .i64 0, .int .i64 0, .int .i64 0, .slice none 0 0] 27)) (.cells #[.int .i64 5, .string ⟨#[]⟩, .string ⟨#[]⟩, .string ⟨#[]⟩, .bool false, .int .i64 0, .int .i64 (R : Int), .int .i64 1, .slice (some ⟨b, o, none⟩) R cc] 27)).mono (by simp))
  have HQ3 := Lib.hid (HQ2.out.later hba)
  have HM := Lib.hid (show MS W0 W q t w2.heap.size (w2.heap.size + 1) R b o cc s d ((w2.alloc (.cells #[.int .i64 1, .string s, .string d, .string ⟨#[]⟩, .bool false, .int .i64 0, .int .i64 0, .int .i64 0, .slice none 0 0] 27)).alloc (.cells #[.int .i64 5, .string ⟨#[]⟩, .string ⟨#[]⟩, .string ⟨#[]⟩, .bool false, .int .i64 0, .int .i64 (R : Int), .int .i64 1, .slice (some ⟨b, o, none⟩) R cc] 27)) from ⟨HB2.out.trans (hba.mono HB2.out.size), HC2.out.next (Chg.of hba [q]), HRb.out.later hba, (Blk.new w2 27 #[.int .i64 1, .string s, .string d, .string ⟨#[]⟩, .bool false, .int .i64 0, .int .i64 0, .int .i64 0, .slice none 0 0]).alloc _, by have h := Blk.new (w2.alloc (.cells #[.int .i64 1, .string s, .string d, .string ⟨#[]⟩, .bool false, .int .i64 0, .int .i64 0, .int .i64 0, .slice none 0 0] 27)) 27 #[.int .i64 5, .string ⟨#[]⟩, .string ⟨#[]⟩, .string ⟨#[]⟩, .bool false, .int .i64 0, .int .i64 (R : Int), .int .i64 1, .slice (some ⟨b, o, none⟩) R cc]; rw [show (w2.alloc (.cells #[.int .i64 1, .string s, .string d, .string ⟨#[]⟩, .bool false, .int .i64 0, .int .i64 0, .int .i64 0, .slice none 0 0] 27)).heap.size = w2.heap.size + 1 by simp] at h; exact h⟩)
  have HXT := Lib.hid (show t < w2.heap.size from HRb.out.lt)
  clear HB2 HC2 HRb HQ2 hba
  revert HM HQ3 HXT
  generalize (w2.alloc (.cells #[.int .i64 1, .string s, .string d, .string ⟨#[]⟩, .bool false, .int .i64 0, .int .i64 0, .int .i64 0, .slice none 0 0] 27)).alloc (.cells #[.int .i64 5, .string ⟨#[]⟩, .string ⟨#[]⟩, .string ⟨#[]⟩, .bool false, .int .i64 0, .int .i64 (R : Int), .int .i64 1, .slice (some ⟨b, o, none⟩) R cc] 27) = w3
  generalize w2.heap.size = X
  intro HQ3 HM HXT
  go_upto_region 3 with (go_at_call 77; go_loud ((with_reducible refine (HWO.out _ HM.out.bel HQ3.out).mono ?_); rintro e w4 ⟨rfl, hb, hc⟩; have HM4 := Lib.hid (show MS W0 W q t X (X + 1) R b o cc s d w4 from ⟨hb, HM.out.chg.next hc, hc.blk HM.out.zt HM.out.zt.lt HTQ.out, hc.blk HM.out.bx HM.out.bx.lt (by rw [List.mem_singleton]; have := HXT.out; omega), hc.blk HM.out.by_ HM.out.by_.lt (by rw [List.mem_singleton]; have := HXT.out; omega)⟩); clear hb hc HM HQ3))
  have HSC := Lib.hid HM4.out.cells
  have HB0 := Lib.hid (Below.refl w4.heap.size w4)
  obtain ⟨x0, x1, x2, x3, x4, x5, x6, x7, x8, y0, y1, y2, y3, y4, y5, y6, y7, y8⟩ := HSC.out _ HB0.out
  go_region_held3 (fun w' => w'.cell? ⟨X, 0, none⟩ = some (.int .i64 1) ∧ w'.cell? ⟨X, 1, none⟩ = some (.string s) ∧ w'.cell? ⟨X, 2, none⟩ = some (.string d) ∧ w'.cell? ⟨X, 3, none⟩ = some (.string ⟨#[]⟩) ∧ w'.cell? ⟨X, 4, none⟩ = some (.bool false) ∧ w'.cell? ⟨X, 5, none⟩ = some (.int .i64 0) ∧ w'.cell? ⟨X, 6, none⟩ = some (.int .i64 0) ∧ w'.cell? ⟨X, 7, none⟩ = some (.int .i64 0) ∧ w'.cell? ⟨X, 8, none⟩ = some (.slice none 0 0) ∧ w'.cell? ⟨X + 1, 0, none⟩ = some (.int .i64 5) ∧ w'.cell? ⟨X + 1, 1, none⟩ = some (.string ⟨#[]⟩) ∧ w'.cell? ⟨X + 1, 2, none⟩ = some (.string ⟨#[]⟩) ∧ w'.cell? ⟨X + 1, 3, none⟩ = some (.string ⟨#[]⟩) ∧ w'.cell? ⟨X + 1, 4, none⟩ = some (.bool false) ∧ w'.cell? ⟨X + 1, 5, none⟩ = some (.int .i64 0) ∧ w'.cell? ⟨X + 1, 6, none⟩ = some (.int .i64 (R : Int)) ∧ w'.cell? ⟨X + 1, 7, none⟩ = some (.int .i64 1) ∧ w'.cell? ⟨X + 1, 8, none⟩ = some (.slice (some ⟨b, o, none⟩) R cc)) (first | exact ⟨by assumption, by assumption, by assumption, by assumption, by assumption, by assumption, by assumption, by assumption, by assumption, by assumption, by assumption, by assumption, by assumption, by assumption, by assumption, by assumption, by assumption, by assumption⟩ | exact HSC.out _ HB3.out | exact HSC.out _ HB2.out | exact HSC.out _ HB1.out) (first
    | (go_at_call 79; (with_reducible refine (HLI.out _).mono ?_); rintro e w5 ⟨rfl, hb⟩; have HB1 := Lib.hid (HB0.out.drew.trans hb); clear hb)
    | (go_at_call 80; (with_reducible refine (HPO.out _ (HM4.out.step HB1.out).bel).mono ?_); rintro e w6 ⟨rfl, hb⟩; have HB2 := Lib.hid (HB1.out.trans (hb.mono HB1.out.size)); clear hb))
  clear x0 x1 x2 x3 x4 x5 x6 x7 x8 y0 y1 y2 y3 y4 y5 y6 y7 y8
  have HSP := Lib.hid (show ∀ W', Calls Tryz.prog 81 #[.bool true, .int .i64 6] W' fun e w' => e = .panicked [{ v := .iface 63 (.int .i64 ((6 : Nat) : Int)), recovered := false }] ∧ W' = w' from fun W' => stop_p 6 W' (by decide))
  go_wp2_with (go_at_call 81; (with_reducible refine (HSP.out _).mono ?_); rintro e wq ⟨rfl, rfl⟩)
  exact ⟨rfl, rfl, (HM4.out.step HB2.out).chg⟩
end Go.Proofs.YtllhefjblipddaaGreatDoor

namespace Go.Proofs.YtllhefjblipddaaGreatDoor
open Go.RowKit

/-- The answer: a number of the column. -/
def PhI (v : Nat → Nat) (x : Nat) (h : Vl) (us : List Vl) : Prop := us = [] ∧ h = nV (v x)
/-- Where the function stands. -/
structure IS (W0 W : World) (q t p R : Nat) (b o cc : Nat) (w : World) : Prop where
  bel : Below W0.heap.size W0 w
  chg : Chg W.heap.size [q] W w
  zt : Blk w t 27 #[.int .i64 0, .string ⟨#[]⟩, .string ⟨#[]⟩, .string ⟨#[]⟩, .bool false, .int .i64 0, .int .i64 0, .int .i64 0, .slice none 0 0]
  arr : Blk w p 69 #[.int .i64 (R : Int), .int .i64 1, .slice (some ⟨b, o, none⟩) R cc]
section
variable {W0 W : World} {q t p R b o cc : Nat} {w w' : World}
theorem IS.step (h : IS W0 W q t p R b o cc w) (hb : Below w.heap.size w w') : IS W0 W q t p R b o cc w' := ⟨h.bel.trans (hb.mono h.bel.size), h.chg.next (Chg.of hb [q]), h.zt.later hb, h.arr.later hb⟩
theorem IS.cells (h : IS W0 W q t p R b o cc w) : ∀ w', Below w.heap.size w w' → w'.cell? ⟨p, 0, none⟩ = some (.int .i64 (R : Int)) ∧ w'.cell? ⟨p, 1, none⟩ = some (.int .i64 1) ∧ w'.cell? ⟨p, 2, none⟩ = some (.slice (some ⟨b, o, none⟩) R cc) := fun w' hw => ⟨(h.arr.later hw).cell 0, (h.arr.later hw).cell 1, (h.arr.later hw).cell 2⟩
end
set_option maxRecDepth 100000 in
set_option maxHeartbeats 16000000 in
/-- INDEX. -/
theorem fIn_any (B0 W0 W : World) (q : Nat) (A : Option Addr) (c : Nat) (u : Vl) (R x : Nat) (v : Nat → Nat) (he : VEnv W0) (h0 : Below W0.heap.size W0 W) (hq0 : W0.heap.size ≤ q) (hq : Blk W q 90 #[.slice A 2 c, .int .i64 0]) (hA : Reads 9 csV W0 (.slice A 2 c) [u, nV (x + 1)]) (hu : AR W0 u R 1 (nVs R v)) (hR : R ≤ 100) (hx : x < R) :
    Calls Tryz.prog 36 #[.pointer (some ⟨q, 0, none⟩)] W (ResG B0 W [q] (PhI v x)) := by
  obtain ⟨A2, n2, cc, rfl, hn, hr⟩ := hu.ex
  have r1 := hu.r1
  have hn2 : n2 = R := by rw [hn, Nat.mul_one]
  subst hn2
  obtain ⟨b, o, rfl⟩ : ∃ b o, A2 = some ⟨b, o, none⟩ := by
    obtain ⟨A', c', e, -, -, h3⟩ := hr
    injection e with e1 e2 e3
    obtain ⟨b, o, e4, -⟩ := h3 (by rw [nVs_len]; omega)
    exact ⟨b, o, e1.trans e4⟩
  generalize n2 = R at *
  have HVA := Lib.hid (show Calls Tryz.prog 39 #[.pointer (some ⟨q, 0, none⟩)] (W.alloc (.cells #[.int .i64 0, .string ⟨#[]⟩, .string ⟨#[]⟩, .string ⟨#[]⟩, .bool false, .int .i64 0, .int .i64 0, .int .i64 0, .slice none 0 0] 27)) fun e w' => e = .returned (aV (R : Int) 1 (some ⟨b, o, none⟩) R cc) ∧ Blk w' q 90 #[.slice A 2 c, .int .i64 (((0 : Nat) : Int) + 1)] ∧ Below W0.heap.size W0 w' ∧ Chg (W.alloc (.cells #[.int .i64 0, .string ⟨#[]⟩, .string ⟨#[]⟩, .string ⟨#[]⟩, .bool false, .int .i64 0, .int .i64 0, .int .i64 0, .slice none 0 0] 27)).heap.size [q] (W.alloc (.cells #[.int .i64 0, .string ⟨#[]⟩, .string ⟨#[]⟩, .string ⟨#[]⟩, .bool false, .int .i64 0, .int .i64 0, .int .i64 0, .slice none 0 0] 27)) w' from value_b W0 (W.alloc (.cells #[.int .i64 0, .string ⟨#[]⟩, .string ⟨#[]⟩, .string ⟨#[]⟩, .bool false, .int .i64 0, .int .i64 0, .int .i64 0, .slice none 0 0] 27)) q A 2 c 0 _ (h0.trans ((below_al W _).mono h0.size)) hq0 (hq.alloc _) hA (by decide) (by decide))
  have HWL := Lib.hid (show ∀ w, Below W0.heap.size W0 w → Blk w q 90 #[.slice A 2 c, .int .i64 (((0 : Nat) : Int) + 1)] → Calls Tryz.prog 83 #[.pointer (some ⟨q, 0, none⟩)] w fun e w' => e = .returned (.int .i64 ((x : Int) + 1)) ∧ Blk w' q 90 #[.slice A 2 c, .int .i64 (((1 : Nat) : Int) + 1)] ∧ Below W0.heap.size W0 w' ∧ Chg w.heap.size [q] w w' from fun w hw hb => (whole_b W0 w q A 2 c 1 (x + 1) _ hw hq0 hb hA (by decide) (by decide) rfl he (by omega)).mono fun e w' hh => by
    refine ⟨?_, hh.2⟩
    rw [hh.1, show ((x + 1 : Nat) : Int) = (x : Int) + 1 from by omega])
  have HMO := Lib.hid fun w (hb : Blk w q 90 #[.slice A 2 c, .int .i64 (((1 : Nat) : Int) + 1)]) => more_any q A 2 c 2 w (show Blk w q 90 #[.slice A 2 c, .int .i64 ((2 : Nat) : Int)] from by rw [show ((2 : Nat) : Int) = ((1 : Nat) : Int) + 1 from rfl]; exact hb) false (by simp)
  have HWO := Lib.hid fun w (hb : Blk w q 90 #[.slice A 2 c, .int .i64 (((1 : Nat) : Int) + 1)]) => wor_0 0 q A 2 c w (show Blk w q 90 #[.slice A 2 c, .int .i64 ((2 : Nat) : Int)] from by rw [show ((2 : Nat) : Int) = ((1 : Nat) : Int) + 1 from rfl]; exact hb)
  obtain ⟨ox, hox⟩ : ∃ ox, ox = o + x * 9 := ⟨_, rfl⟩
  obtain ⟨sx, hsx⟩ : ∃ sx, sx = nt (v x) := ⟨_, rfl⟩
  have hrx : Reads 9 csV W0 (.slice (some ⟨b, ox, none⟩) 1 (cc - x)) [nV (v x)] := by
    have h := reads_part hr (by omega) x 1 (cc - x) (by omega) (by have := reads_cap hr; omega)
    rw [nVs_at hx] at h
    rw [hox]
    exact h
  have HRX := Lib.hid (nv_at hrx).2
  rw [← hsx] at HRX
  have HRO := Lib.hid (show ∀ w, Below W0.heap.size W0 w → Calls Tryz.prog 85 #[.agg #[.int .i64 (R : Int), .int .i64 1, .slice (some ⟨b, o, none⟩) R cc], .int .i64 (x : Int)] w fun e w' => e = .returned (.slice (some ⟨b, ox, none⟩) 1 (cc - x)) ∧ True ∧ Below w.heap.size w w' from fun w hw => (row1_a R x b o cc v W0 hx (by omega) hr w hw).mono fun e w' hh => ⟨by rw [hox]; exact hh.1, trivial, hh.2.2⟩)
  have HSX := Lib.hid (show (⟨1, sx, ⟨#[49]⟩, ⟨#[]⟩, false, 0, 0, 0, none, 0, 0⟩ : Vl) = nV (v x) from by rw [hsx]; rfl)
  have HBL := Lib.hid (show b < W0.heap.size from (hr.lt (by omega)).2.1)
  obtain ⟨t, ht⟩ : ∃ t, t = W.heap.size := ⟨_, rfl⟩
  have HRz := Lib.hid (Blk.new W 27 #[.int .i64 0, .string ⟨#[]⟩, .string ⟨#[]⟩, .string ⟨#[]⟩, .bool false, .int .i64 0, .int .i64 0, .int .i64 0, .slice none 0 0])
  rw [← ht] at HRz
  have hqt : q < t := by have := hq.lt; omega
  have htq : t ∉ [q] := fun h => by
    rw [List.mem_singleton] at h
    omega
  have HTQ := Lib.hid htq
  have HTS := Lib.hid (show t < (W.alloc (.cells #[.int .i64 0, .string ⟨#[]⟩, .string ⟨#[]⟩, .string ⟨#[]⟩, .bool false, .int .i64 0, .int .i64 0, .int .i64 0, .slice none 0 0] 27)).heap.size from by rw [ht]; simp)
  have HH := Lib.hid ht
  have x1 : IntKind.i64.wrap ((x : Int) + 1 - 1) = (x : Int) := by rw [IntWalk.i64_in _ (by omega)]; omega
  have x7 : IntKind.i64.wrap (x : Int) = (x : Int) := IntWalk.i64_in _ (by omega)
  have x2 : ¬ (x : Int) + 1 < 0 := by omega
  have x3 : ¬ (R : Int) < (x : Int) + 1 := by omega
  have x4 : (0 : Int) < (x : Int) + 1 := by omega
  have x5 : decide ((x : Int) + 1 < 0) = false := decide_eq_false x2
  have x6 : decide ((R : Int) < (x : Int) + 1) = false := decide_eq_false x3
  have hOX := Lib.hid hox
  clear htq hr h0 hq hA hu hn he hox hsx hrx
  go_enter Tryz.func36, Tryz.ntmps36
  go_upto_region 1 with fail
  rw [← ht]
  clear ht
  go_upto_region 2 with (first
    | (go_at_call 39; (with_reducible refine HVA.out.mono ?_); rintro e w1 ⟨rfl, hq1, hb, hc⟩; have HQ1 := Lib.hid hq1; have HB1 := Lib.hid hb; have HC1 := Lib.hid ((Chg.of (below_al W _) [q]).next hc); have HRa := Lib.hid (hc.blk HRz.out HTS.out HTQ.out); clear hq1 hb hc HRz)
    | (go_at_call 38; (with_reducible refine (grid_a _ _ _ _ _ _).mono ?_); rintro e w2 ⟨rfl, hb⟩; have HQ2 := Lib.hid (HQ1.out.later hb); have HB2 := Lib.hid (HB1.out.trans (hb.mono HB1.out.size)); have HC2 := Lib.hid (HC1.out.next (Chg.of hb [q])); have HRb := Lib.hid (HRa.out.later hb); clear hb HQ1 HB1 HRa HC1))
  have hba := below_al w2 (.cells #[.int .i64 (R : Int), .int .i64 1, .slice (some ⟨b, o, none⟩) R cc] 69)
  have HQ3 := Lib.hid (HQ2.out.later hba)
  have HI := Lib.hid (show IS W0 W q t w2.heap.size R b o cc (w2.alloc (.cells #[.int .i64 (R : Int), .int .i64 1, .slice (some ⟨b, o, none⟩) R cc] 69)) from ⟨HB2.out.trans (hba.mono HB2.out.size), HC2.out.next (Chg.of hba [q]), HRb.out.later hba, Blk.new w2 69 #[.int .i64 (R : Int), .int .i64 1, .slice (some ⟨b, o, none⟩) R cc]⟩)
  have HXT := Lib.hid (show t < w2.heap.size ∧ W0.heap.size ≤ w2.heap.size from ⟨HRb.out.lt, HB2.out.size⟩)
  clear HB2 HC2 HRb HQ2 hba
  revert HQ3 HI HXT
  generalize w2.alloc (.cells #[.int .i64 (R : Int), .int .i64 1, .slice (some ⟨b, o, none⟩) R cc] 69) = w3
  generalize w2.heap.size = p
  intro HQ3 HI HXT
  have HPQ := Lib.hid (show p ∉ [q] from by rw [List.mem_singleton]; have := HXT.out.1; omega)
  go_upto_region 4 with (first
    | (go_at_call 83; (with_reducible refine (HWL.out _ HI.out.bel HQ3.out).mono ?_); rintro e w4 ⟨rfl, hq1, hb, hc⟩; have HQ4 := Lib.hid hq1; have HI4 := Lib.hid (show IS W0 W q t p R b o cc w4 from ⟨hb, HI.out.chg.next hc, hc.blk HI.out.zt HI.out.zt.lt HTQ.out, hc.blk HI.out.arr HI.out.arr.lt HPQ.out⟩); clear hq1 hb hc HI HQ3)
    | (go_at_call 82; (with_reducible refine (HMO.out _ HQ4.out).mono ?_); rintro e w5 ⟨rfl, hb⟩; have HQ5 := Lib.hid (HQ4.out.later hb); have HI5 := Lib.hid (HI4.out.step hb); clear hb HI4 HQ4)
    | (go_at_call 77; (with_reducible refine (HWO.out _ HQ5.out).mono ?_); rintro e w6 ⟨rfl, hb⟩; have HI := Lib.hid (HI5.out.step hb); clear hb HI5 HQ5))
  have HSC := Lib.hid HI.out.cells
  have HB0 := Lib.hid (Below.refl w6.heap.size w6)
  obtain ⟨y0, y1, y2⟩ := HSC.out _ HB0.out
  rcases Nat.lt_or_ge 1 R with hlt | hge
  · have r2 : ¬ (R : Int) = 1 := by omega
    have r3 : ((R : Int) == 1) = false := by rw [beq_eq_false_iff_ne]; exact r2
    have r4 : ¬ R = 1 := by omega
    go_upto_region 11 with (go_at_call 81; (try rw [x5]); (try rw [x6]); (with_reducible refine (stop_f _ _).mono ?_); rintro e wq ⟨rfl, rfl⟩)
    clear y0 y1 y2
    refine wp_region_G (S1 := fun _ => True) (S2 := fun w' => w'.cell? ⟨p, 0, none⟩ = some (.int .i64 (R : Int)) ∧ w'.cell? ⟨p, 1, none⟩ = some (.int .i64 1) ∧ w'.cell? ⟨p, 2, none⟩ = some (.slice (some ⟨b, o, none⟩) R cc)) (d := 7) (by kernel_rfl) trivial (HSC.out _ HB0.out.drew) (fun hT => ?_)
    refine wpAnyG_take1d (i := 0) (v := ?_) rfl rfl (by kernel_rfl) (by kernel_rfl) (by kernel_rfl) (by kernel_rfl) (fun _ _ _ h => h) (Or.inl ⟨by rfl, ?_⟩) (by assumption) (fun hT => ?_)
    rotate_left
    · intro w hSw
      (try dsimp only at hSw)
      go_simp
      (try with_reducible rfl)
    (try simp only [Act.put, List.setIfInBounds_toArray, List.set_cons_zero, List.set_cons_succ])
    refine wpAnyG_take2d (i := 1) (v := ?_) rfl rfl (by kernel_rfl) (by kernel_rfl) (by kernel_rfl) (by kernel_rfl) (by kernel_rfl) (by kernel_rfl) (fun _ _ _ h => h) (Or.inl ⟨by rfl, ?_⟩) (by assumption) (fun hT => ?_)
    rotate_left
    · intro w hSw
      (try dsimp only at hSw)
      go_simp
      (try with_reducible rfl)
    (try simp only [Act.put, List.setIfInBounds_toArray, List.set_cons_zero, List.set_cons_succ])
    refine wpAnyG_take2d (i := 2) (v := ?_) rfl rfl (by kernel_rfl) (by kernel_rfl) (by kernel_rfl) (by kernel_rfl) (by kernel_rfl) (by kernel_rfl) (fun _ _ _ h => h) (Or.inl ⟨by rfl, ?_⟩) (by assumption) (fun hT => ?_)
    rotate_left
    · intro w hSw
      (try dsimp only at hSw)
      go_simp
      (try with_reducible rfl)
    (try simp only [Act.put, List.setIfInBounds_toArray, List.set_cons_zero, List.set_cons_succ])
    refine wpAnyG_take1d (i := 3) (v := ?_) rfl rfl (by kernel_rfl) (by kernel_rfl) (by kernel_rfl) (by kernel_rfl) (fun _ _ _ h => h) (Or.inl ⟨by rfl, ?_⟩) (by assumption) (fun hT => ?_)
    rotate_left
    · intro w hSw
      (try dsimp only at hSw)
      go_simp
      (try with_reducible rfl)
    (try simp only [Act.put, List.setIfInBounds_toArray, List.set_cons_zero, List.set_cons_succ])
    refine wpAnyG_take1d (i := 4) (v := ?_) rfl rfl (by kernel_rfl) (by kernel_rfl) (by kernel_rfl) (by kernel_rfl) (fun _ _ _ h => h) (Or.inl ⟨by rfl, ?_⟩) (by assumption) (fun hT => ?_)
    rotate_left
    · intro w hSw
      (try dsimp only at hSw)
      go_simp
      (try with_reducible rfl)
    (try simp only [Act.put, List.setIfInBounds_toArray, List.set_cons_zero, List.set_cons_succ])
    refine wpAnyG_ready (rs := [5]) (by kernel_rfl) (by simp) ?_
    refine AllG.cons (i := 5) rfl (fun K hK => ?_) AllG.nil
    go_simp
    go_at_call 85
    (with_reducible refine (HRO.out _ (HI.out.step HB0.out.drew).bel).mono ?_)
    rintro e w7 ⟨rfl, -, hb⟩
    have HB1 := Lib.hid (HB0.out.drew.trans hb)
    have HI6 := Lib.hid (HI.out.step HB1.out)
    clear hb
    obtain ⟨z0, z1, z2, f0, f1, f2⟩ := HI6.out.arr.three
    refine hK.out _ _ ⟨trivial, .inr (HSC.out _ HB1.out)⟩ (fun hT => ?_)
    clear hK K
    (try simp only [Act.put, List.setIfInBounds_toArray, List.set_cons_zero, List.set_cons_succ])
    refine wpAnyG_take1d (i := 6) (v := ?_) rfl rfl (by kernel_rfl) (by kernel_rfl) (by kernel_rfl) (by kernel_rfl) (fun _ _ _ h => h) (Or.inl ⟨by rfl, ?_⟩) (by assumption) (fun hT => ?_)
    rotate_left
    · intro w hSw
      (try dsimp only at hSw)
      go_simp
      (try with_reducible rfl)
    (try simp only [Act.put, List.setIfInBounds_toArray, List.set_cons_zero, List.set_cons_succ])
    refine wpAnyG_ready (rs := [7]) (by kernel_rfl) (by simp) ?_
    refine AllG.cons (i := 7) rfl (fun K hK => ?_) AllG.nil
    go_simp
    refine hK.out _ _ ⟨trivial, .inl rfl⟩ (fun hT => ?_)
    clear hK K
    (try simp only [Act.put, List.setIfInBounds_toArray, List.set_cons_zero, List.set_cons_succ])
    refine wpAnyG_done (by kernel_rfl) ?_ _
    clear z0 z1 z2 f0 f1 f2
    have HA8 := Lib.hid (HI6.out.arr.three_set (.int .i64 1) (.int .i64 1) (.slice (some ⟨b, ox, none⟩) 1 (cc - x))).1
    have hpt := HXT.out
    have HT8 := Lib.hid (show Blk (((w7.setCell ⟨p, 0, none⟩ (.int .i64 1)).setCell ⟨p, 1, none⟩ (.int .i64 1)).setCell ⟨p, 2, none⟩ (.slice (some ⟨b, ox, none⟩) 1 (cc - x))) t 27 #[.int .i64 0, .string ⟨#[]⟩, .string ⟨#[]⟩, .string ⟨#[]⟩, .bool false, .int .i64 0, .int .i64 0, .int .i64 0, .slice none 0 0] from ((HI6.out.zt.far (p := ⟨p, 0, none⟩) (by show t ≠ p; omega) _).far (p := ⟨p, 1, none⟩) (by show t ≠ p; omega) _).far (p := ⟨p, 2, none⟩) (by show t ≠ p; omega) _)
    have hH := HH.out
    have HC8 := Lib.hid (show Chg W.heap.size [q] W (((w7.setCell ⟨p, 0, none⟩ (.int .i64 1)).setCell ⟨p, 1, none⟩ (.int .i64 1)).setCell ⟨p, 2, none⟩ (.slice (some ⟨b, ox, none⟩) 1 (cc - x))) from ((HI6.out.chg.set (p := ⟨p, 0, none⟩) (.inr (by show W.heap.size ≤ p; omega)) _).set (p := ⟨p, 1, none⟩) (.inr (by show W.heap.size ≤ p; omega)) _).set (p := ⟨p, 2, none⟩) (.inr (by show W.heap.size ≤ p; omega)) _)
    have HB8 := Lib.hid (show Below W0.heap.size W0 (((w7.setCell ⟨p, 0, none⟩ (.int .i64 1)).setCell ⟨p, 1, none⟩ (.int .i64 1)).setCell ⟨p, 2, none⟩ (.slice (some ⟨b, ox, none⟩) 1 (cc - x))) from below_three HI6.out.bel (by omega) _ _ _)
    clear hpt hH HI6 HSC HB1 HB0 HI
    revert HA8 HT8 HC8 HB8
    generalize ((w7.setCell ⟨p, 0, none⟩ (.int .i64 1)).setCell ⟨p, 1, none⟩ (.int .i64 1)).setCell ⟨p, 2, none⟩ (.slice (some ⟨b, ox, none⟩) 1 (cc - x)) = w8
    intro HA8 HT8 HC8 HB8
    obtain ⟨z0, z1, z2, -⟩ := HA8.out.three
    obtain ⟨e0, e1, e2, e3, e4, e5, e6, e7, e8⟩ := HRX.out w8 HB8.out
    obtain ⟨f0, f1, f2, f3, f4, f5, f6, f7, f8⟩ := HT8.out.ninef
    obtain ⟨y0, y1, y2, y3, y4, y5, y6, y7, y8⟩ := HT8.out.nine
    go_upto_region 99 with fail
    clear z0 z1 z2 e0 e1 e2 e3 e4 e5 e6 e7 e8 f0 f1 f2 f3 f4 f5 f6 f7 f8 y0 y1 y2 y3 y4 y5 y6 y7 y8
    obtain ⟨q0, q1, q2, q3, q4, q5, q6, q7, q8⟩ := (HT8.out.nine_set (.int .i64 1) (.string sx) (.string ⟨#[49]⟩) (.string ⟨#[]⟩) (.bool false) (.int .i64 0) (.int .i64 0) (.int .i64 0) (.slice none 0 0)).1.nine
    have hcn := chg_nine w8 t (.int .i64 1) (.string sx) (.string ⟨#[49]⟩) (.string ⟨#[]⟩) (.bool false) (.int .i64 0) (.int .i64 0) (.int .i64 0) (.slice none 0 0)
    exact bodyPost_ret (v := .agg #[.int .i64 1, .string sx, .string ⟨#[49]⟩, .string ⟨#[]⟩, .bool false, .int .i64 0, .int .i64 0, .int .i64 0, .slice none 0 0]) (by simp [results, Tryz.results36, go_sem, q0, q1, q2, q3, q4, q5, q6, q7, q8]) rfl ⟨1, sx, ⟨#[49]⟩, ⟨#[]⟩, false, 0, 0, 0, none, 0, 0, [], rfl, ⟨rfl, HSX.out⟩, reads_nil _, (fun b o e => by cases e), HC8.out.trans (hcn.mono HC8.out.size fun y hy => .inr (by rw [List.mem_singleton.1 hy, HH.out]; exact Nat.le_refl _))⟩

  · have hR1 : R = 1 := by omega
    have hx0 : x = 0 := by omega
    subst hR1 hx0
    have hoo : ox = o := by have := hOX.out; omega
    have HT := Lib.hid HI.out.zt
    have HC := Lib.hid HI.out.chg
    obtain ⟨e0, e1, e2, e3, e4, e5, e6, e7, e8⟩ := HRX.out w6 HI.out.bel
    rw [hoo] at e0 e1 e2 e3 e4 e5 e6 e7 e8
    obtain ⟨f0, f1, f2, f3, f4, f5, f6, f7, f8⟩ := HT.out.ninef
    obtain ⟨z0, z1, z2, z3, z4, z5, z6, z7, z8⟩ := HT.out.nine
    clear hoo
    go_upto_region 99 with (go_at_call 81; (try rw [x5]); (try rw [x6]); (with_reducible refine (stop_f _ _).mono ?_); rintro e wq ⟨rfl, rfl⟩)
    clear y0 y1 y2 e0 e1 e2 e3 e4 e5 e6 e7 e8 f0 f1 f2 f3 f4 f5 f6 f7 f8 z0 z1 z2 z3 z4 z5 z6 z7 z8
    obtain ⟨q0, q1, q2, q3, q4, q5, q6, q7, q8⟩ := (HT.out.nine_set (.int .i64 1) (.string sx) (.string ⟨#[49]⟩) (.string ⟨#[]⟩) (.bool false) (.int .i64 0) (.int .i64 0) (.int .i64 0) (.slice none 0 0)).1.nine
    have hcn := chg_nine w6 t (.int .i64 1) (.string sx) (.string ⟨#[49]⟩) (.string ⟨#[]⟩) (.bool false) (.int .i64 0) (.int .i64 0) (.int .i64 0) (.slice none 0 0)
    exact bodyPost_ret (v := .agg #[.int .i64 1, .string sx, .string ⟨#[49]⟩, .string ⟨#[]⟩, .bool false, .int .i64 0, .int .i64 0, .int .i64 0, .slice none 0 0]) (by simp [results, Tryz.results36, go_sem, q0, q1, q2, q3, q4, q5, q6, q7, q8]) rfl ⟨1, sx, ⟨#[49]⟩, ⟨#[]⟩, false, 0, 0, 0, none, 0, 0, [], rfl, ⟨rfl, HSX.out⟩, reads_nil _, (fun b o e => by cases e), HC.out.trans (hcn.mono HC.out.size fun y hy => .inr (by rw [List.mem_singleton.1 hy, HH.out]; exact Nat.le_refl _))⟩

end Go.Proofs.YtllhefjblipddaaGreatDoor

namespace Go.Proofs.YtllhefjblipddaaGreatDoor
open Go.RowKit

theorem itoa_z (z : Int) (h0 : -1000000 ≤ z) (h1 : z ≤ 1000000) (w : World) (htab : Lib.TabIs Tryz.prog w "internal/strconv.uint64pow10" .u64 Lib.pow10Tab) :
    Calls Tryz.prog 20 #[.int .i64 z] w fun e w' => e = .returned (.string ⟨(Lib.itoa z).toArray⟩) ∧ Below w.heap.size w w' := by
  refine (Tryz.strconv_Itoa z (by omega) (by omega) w htab).mono ?_
  rintro e w' ⟨rfl, k, os, rfl⟩
  exact ⟨rfl, Lib.below_grow _ w (Nat.le_refl _) k os⟩
theorem cut_z (z : Int) (w : World) : Calls Tryz.prog 19 #[.string ⟨(Lib.itoa z).toArray⟩, .string ⟨#[45]⟩] w fun e w' => e = .returned (.tuple #[.string ⟨(Lib.decDigits z.natAbs).toArray⟩, .bool (decide (z < 0))]) ∧ w = w' := by
  refine (Tryz.strings_CutPrefix ⟨(Lib.itoa z).toArray⟩ ⟨#[45]⟩ w).mono fun e w' ⟨h1, h2⟩ => ⟨?_, h2.symm⟩
  rw [h1]
  have hl : (⟨(Lib.itoa z).toArray⟩ : ByteArray).data.toList = Lib.itoa z := rfl
  have hp : (⟨#[45]⟩ : ByteArray).data.toList = [45] := rfl
  rw [hl, hp]
  by_cases hz : z < 0
  · have e1 : Lib.itoa z = 45 :: Lib.decDigits z.natAbs := by unfold Lib.itoa; rw [if_pos hz]
    rw [e1]
    have e2 : Lib.trimPrefix (45 :: Lib.decDigits z.natAbs) [45] = Lib.decDigits z.natAbs := by simp [Lib.trimPrefix, Lib.hasPrefix]
    have e3 : Lib.hasPrefix (45 :: Lib.decDigits z.natAbs) [45] = true := by simp [Lib.hasPrefix]
    rw [e2, e3, decide_eq_true hz]
  · have e0 : z.toNat = z.natAbs := by omega
    have e1 : Lib.itoa z = Lib.decDigits z.natAbs := by unfold Lib.itoa; rw [if_neg hz, e0]
    rw [e1]
    have hd := Nt.allD_dd z.natAbs
    have e3 : Lib.hasPrefix (Lib.decDigits z.natAbs) [45] = false := by
      cases hc : Lib.decDigits z.natAbs with
      | nil => rfl
      | cons c t =>
        have h9 : Nt.isD c := hd c (by rw [hc]; simp)
        have hne : ¬ c = 45 := fun e => by
          rw [e] at h9
          exact absurd h9 (by unfold Nt.isD; decide)
        have hne2 : ¬ (45 : UInt8) = c := fun e => hne e.symm
        simp [Lib.hasPrefix, List.isPrefixOf, hne2]
    have e2 : Lib.trimPrefix (Lib.decDigits z.natAbs) [45] = Lib.decDigits z.natAbs := by unfold Lib.trimPrefix; rw [e3]; rfl
    rw [e2, e3, decide_eq_false hz]
theorem parse_d (n : Nat) (hn : n ≤ 1000000) (w : World) : Calls Tryz.prog 21 #[.string ⟨(Lib.decDigits n).toArray⟩] w fun e w' => ∃ v, e = .returned v ∧ Nv w' v (Nt.digs n) ∧ Below w.heap.size w w' := by
  have hl : (Lib.decDigits n).length ≤ 17 := Nt.dd_le (k := 16) (by omega)
  have h := parse_any ⟨(Lib.decDigits n).toArray⟩ (Lib.decDigits n) w rfl (Nt.allD_dd n) (by omega)
  rw [Nt.dval_dd] at h
  exact h
set_option maxRecDepth 100000 in
set_option maxHeartbeats 4000000 in
theorem ratio_z (z : Int) (h0 : -1000000 ≤ z) (h1 : z ≤ 1000000) (w : World) (htab : Lib.TabIs Tryz.prog w "internal/strconv.uint64pow10" .u64 Lib.pow10Tab) :
    Calls Tryz.prog 14 #[.int .i64 z, .int .i64 100] w fun e w' => ∃ sn sd : ByteArray, e = .returned (.tuple #[.agg #[.string sn, .string sd], .int .i64 0]) ∧ (∃ m n d, Nt.Rd sn.data.toList sd.data.toList m n d) ∧ Below w.heap.size w w' := by
  have HT := Lib.hid (show ∀ W, Below w.heap.size w W → Lib.TabIs Tryz.prog W "internal/strconv.uint64pow10" .u64 Lib.pow10Tab from Lib.tabBelow_of_tabIs htab)
  have HI1 := Lib.hid (show ∀ W, Below w.heap.size w W → Calls Tryz.prog 20 #[.int .i64 z] W fun e w' => e = .returned (.string ⟨(Lib.itoa z).toArray⟩) ∧ Below W.heap.size W w' from fun W hW => itoa_z z h0 h1 W (HT.out W hW))
  have HI2 := Lib.hid (show ∀ W, Below w.heap.size w W → Calls Tryz.prog 20 #[.int .i64 100] W fun e w' => e = .returned (.string ⟨(Lib.itoa 100).toArray⟩) ∧ Below W.heap.size W w' from fun W hW => itoa_z 100 (by decide) (by decide) W (HT.out W hW))
  have HC1 := Lib.hid (show ∀ W, Calls Tryz.prog 19 #[.string ⟨(Lib.itoa z).toArray⟩, .string ⟨#[45]⟩] W fun e w' => e = .returned (.tuple #[.string ⟨(Lib.decDigits z.natAbs).toArray⟩, .bool (decide (z < 0))]) ∧ W = w' from fun W => cut_z z W)
  have HC2 := Lib.hid (show ∀ W, Calls Tryz.prog 19 #[.string ⟨(Lib.itoa 100).toArray⟩, .string ⟨#[45]⟩] W fun e w' => e = .returned (.tuple #[.string ⟨(Lib.decDigits 100).toArray⟩, .bool false]) ∧ W = w' from fun W => cut_z 100 W)
  obtain ⟨n, hn⟩ : ∃ n, n = z.natAbs := ⟨_, rfl⟩
  have hn6 : n ≤ 1000000 := by omega
  have HP1 := Lib.hid fun W => parse_d n hn6 W
  have HP2 := Lib.hid fun W => parse_d 100 (by decide) W
  rw [← hn] at HC1
  obtain ⟨m, hm⟩ : ∃ m, m = decide (z < 0) := ⟨_, rfl⟩
  rw [← hm] at HC1
  have hb0 : (m != false) = m := by cases m <;> rfl
  have f1 : (Lib.decDigits (n / Nat.gcd n 100)).length ≤ 300 := by
    have h := Nat.div_le_self n (Nat.gcd n 100)
    have : (Lib.decDigits (n / Nat.gcd n 100)).length ≤ 17 := Nt.dd_le (k := 16) (by omega)
    omega
  have f2 : (Lib.decDigits (100 / Nat.gcd n 100)).length ≤ 300 := by
    have h := Nat.div_le_self 100 (Nat.gcd n 100)
    have : (Lib.decDigits (100 / Nat.gcd n 100)).length ≤ 17 := Nt.dd_le (k := 16) (by omega)
    omega
  have s1 : (Nt.digs n).length ≤ 900000 := by
    have : (Nt.digs n).length ≤ 1 := Nt.digs_len (by unfold Nt.B; omega)
    omega
  have s2 : (Nt.digs 100).length ≤ 900000 := by
    have : (Nt.digs 100).length ≤ 1 := Nt.digs_len (by unfold Nt.B; omega)
    omega
  have HW := Lib.hid (show ∀ x W, Nm W x m n 100 → Below w.heap.size w W → Calls Tryz.prog 22 #[x] W (WriteRet m n 100 W) from fun x W hx hW => write_any x m n 100 W hx (by decide) s1 s2 f1 f2 (HT.out W hW))
  have HRD := Lib.hid (show ∃ m' n' d', Nt.Rd (Nt.numT m n 100) (Nt.denT n 100) m' n' d' from by
    obtain ⟨m', n', e, r, -⟩ := (Nt.rd_w m n 100 (by decide) f1 f2).ex
    exact ⟨m', n', e, r⟩)
  have HL0 := Lib.hid ((Loc.start w).alloc' rfl 24 #[.string ⟨#[]⟩, .string ⟨#[]⟩])
  obtain ⟨iz, hiz⟩ : ∃ iz : ByteArray, iz = ⟨(Lib.itoa z).toArray⟩ := ⟨_, rfl⟩
  obtain ⟨ih, hih⟩ : ∃ ih : ByteArray, ih = ⟨(Lib.itoa 100).toArray⟩ := ⟨_, rfl⟩
  obtain ⟨dn, hdn⟩ : ∃ dn : ByteArray, dn = ⟨(Lib.decDigits n).toArray⟩ := ⟨_, rfl⟩
  obtain ⟨dh, hdh⟩ : ∃ dh : ByteArray, dh = ⟨(Lib.decDigits 100).toArray⟩ := ⟨_, rfl⟩
  rw [← hiz] at HI1 HC1
  rw [← hih] at HI2 HC2
  rw [← hdn] at HC1 HP1
  rw [← hdh] at HC2 HP2
  clear htab hn hm h0 h1 hiz hih hdn hdh f1 f2 s1 s2
  go_enter Tryz.func14, Tryz.ntmps14
  go_wp2_with (first
    | (go_at_call 20; first | ((with_reducible refine (HI1.out _ HL0.out.bel).mono ?_); rintro e w1 ⟨rfl, hb⟩; have HL1 := Lib.hid (HL0.out.step hb); clear hb) | ((with_reducible refine (HI2.out _ HL1.out.bel).mono ?_); rintro e w2 ⟨rfl, hb⟩; have HL2 := Lib.hid (HL1.out.step hb); clear hb))
    | (go_at_call 19; first | ((with_reducible refine (HC1.out _).mono ?_); rintro e w3 ⟨rfl, rfl⟩) | ((with_reducible refine (HC2.out _).mono ?_); rintro e w4 ⟨rfl, rfl⟩))
    | (go_at_call 21; first | ((with_reducible refine (HP1.out _).mono ?_); rintro e w5 ⟨v1, rfl, hv, hb⟩; obtain ⟨A1, c1, rfl, -, -, -, -⟩ := hv.ex; have HV1 := Lib.hid hv; have HL3 := Lib.hid (HL2.out.step hb); clear hb hv) | ((with_reducible refine (HP2.out _).mono ?_); rintro e w6 ⟨v2, rfl, hv, hb⟩; obtain ⟨A2, c2, rfl, -, -, -, -⟩ := hv.ex; have HV2 := Lib.hid hv; have HV3 := Lib.hid (HV1.out.below hb); have HL4 := Lib.hid (HL3.out.step hb); clear hb hv))
    | (go_at_call 22; (try rw [hb0]); (with_reducible refine (HW.out _ _ ⟨_, _, rfl, HV3.out, HV2.out⟩ HL4.out.bel).mono ?_); rintro e w7 ⟨hb, sn, sd, rfl, e1, e2⟩; have hl := HL4.out.step hb; have HL5 := Lib.hid hl; have bl := hl.blk (g := w.heap.size) (t := 24) (cs := #[.string ⟨#[]⟩, .string ⟨#[]⟩]) (by simp); have HBL := Lib.hid bl; obtain ⟨z0, z1, f0, f1⟩ := bl.two; have E1 := Lib.hid e1; have E2 := Lib.hid e2; clear hl bl hb e1 e2))
  obtain ⟨-, q0, q1⟩ := HBL.out.two_set (.string sn) (.string sd)
  refine bodyPost_ret (v := .tuple #[.agg #[.string sn, .string sd], .int .i64 0]) (by simp [results, Tryz.results14, go_sem, q0, q1]) rfl ?_
  exact ⟨sn, sd, rfl, by rw [E1.out, E2.out]; exact HRD.out, below_two HL5.out.bel (by omega) _ _⟩
set_option maxRecDepth 100000 in
set_option maxHeartbeats 4000000 in
theorem number_any (x : Int) (hx : -9223372036854775808 ≤ x ∧ x ≤ 9223372036854775807) (W : World) (he : VEnv W) :
    Calls Tryz.prog 10 #[.int .i64 x] W fun e w' => ∃ sn sd : ByteArray, e = .returned (.agg #[.int .i64 1, .string sn, .string sd, .string ⟨#[]⟩, .bool false, .int .i64 0, .int .i64 0, .int .i64 0, .slice none 0 0]) ∧ GN sn sd ∧ Below W.heap.size W w' := by
  have HMD := Lib.hid fun W' => mod_any x 2000001 W' (by decide) (by decide) hx
  obtain ⟨y, hy⟩ : ∃ y, y = x % 2000001 := ⟨_, rfl⟩
  have hy0 : 0 ≤ y := by rw [hy]; exact Int.emod_nonneg _ (by decide)
  have hy1 : y < 2000001 := by rw [hy]; exact Int.emod_lt_of_pos _ (by decide)
  rw [← hy] at HMD
  obtain ⟨z, hz⟩ : ∃ z, z = y - 1000000 := ⟨_, rfl⟩
  have wz : IntKind.i64.wrap (y - 1000000) = z := by rw [IntWalk.i64_in _ (by omega)]; exact hz.symm
  have HRA := Lib.hid fun W' (hW : Below W.heap.size W W') => ratio_z z (by omega) (by omega) W' (Lib.tabBelow_of_tabIs he.pw W' hW)
  have HNU := Lib.hid fun (sn sd : ByteArray) W' (hW : Below W.heap.size W W') (h : ∃ m n d, Nt.Rd sn.data.toList sd.data.toList m n d) (s1 : sn.size ≤ 9223372036854775807) (s2 : sd.size ≤ 9223372036854775807) => (show Calls Tryz.prog 15 #[.agg #[.string sn, .string sd]] W' fun e w' => e = .returned (.agg #[.int .i64 1, .string sn, .string sd, .string ⟨#[]⟩, .bool false, .int .i64 0, .int .i64 0, .int .i64 0, .slice none 0 0]) ∧ Below W'.heap.size W' w' from number_t sn sd W' (he.below hW) h s1 s2)
  have HL0 := Lib.hid ((Loc.start W).alloc' rfl 27 #[.int .i64 0, .string ⟨#[]⟩, .string ⟨#[]⟩, .string ⟨#[]⟩, .bool false, .int .i64 0, .int .i64 0, .int .i64 0, .slice none 0 0])
  clear he hx hy hy0 hy1 hz
  go_enter Tryz.func10, Tryz.ntmps10
  go_upto_region 2 with (first
    | (go_at_call 6; (with_reducible refine (HMD.out _).mono ?_); rintro e w1 ⟨rfl, rfl⟩)
    | (go_at_call 14; (with_reducible refine (HRA.out _ HL0.out.bel).mono ?_); rintro e w2 ⟨sn, sd, rfl, hr, hb⟩; have HRD := Lib.hid hr; have HL1 := Lib.hid (HL0.out.step hb); clear hr hb))
  have HL2 := Lib.hid (HL1.out.alloc' (g := w2.heap.size) rfl 24 #[.string sn, .string sd])
  have HNE := Lib.hid (show W.heap.size < w2.heap.size from HL1.out.lt (g := W.heap.size) (t := 27) (List.mem_cons_self ..))
  clear HL1
  revert HL2 HNE
  generalize w2.alloc (.cells #[.string sn, .string sd] 24) = w3
  generalize w2.heap.size = X
  intro HL2 HNE
  have hsz : sn.size ≤ 9223372036854775807 ∧ sd.size ≤ 9223372036854775807 := by
    obtain ⟨m, n, d, r⟩ := HRD.out
    have h1 := r.ln
    have h2 := r.ld
    have e1 : sn.size = sn.data.toList.length := rfl
    have e2 : sd.size = sd.data.toList.length := rfl
    rw [e1, e2, r.num, r.den]
    have h3 : (Nt.sgn m).length ≤ 1 := by cases m <;> decide
    rw [List.length_append]
    omega
  have HSZ := Lib.hid hsz
  obtain ⟨x0, x1, -, -⟩ := (HL2.out.blk (g := X) (t := 24) (cs := #[.string sn, .string sd]) (List.mem_cons_self ..)).two
  go_upto_region 99 with (go_at_call 15; (with_reducible refine (HNU.out _ _ _ HL2.out.bel HRD.out HSZ.out.1 HSZ.out.2).mono ?_); rintro e w4 ⟨rfl, hb⟩; have HL3 := Lib.hid (HL2.out.step hb); clear hb x0 x1; have HBW := Lib.hid (HL3.out.blk (g := W.heap.size) (t := 27) (cs := #[.int .i64 0, .string ⟨#[]⟩, .string ⟨#[]⟩, .string ⟨#[]⟩, .bool false, .int .i64 0, .int .i64 0, .int .i64 0, .slice none 0 0]) (List.mem_cons_of_mem _ (List.mem_cons_self ..))); obtain ⟨f0, f1, f2, f3, f4, f5, f6, f7, f8⟩ := HBW.out.ninef; obtain ⟨z0, z1, z2, z3, z4, z5, z6, z7, z8⟩ := HBW.out.nine)
  clear f0 f1 f2 f3 f4 f5 f6 f7 f8 z0 z1 z2 z3 z4 z5 z6 z7 z8
  obtain ⟨q0, q1, q2, q3, q4, q5, q6, q7, q8⟩ := (HBW.out.nine_set (.int .i64 1) (.string sn) (.string sd) (.string ⟨#[]⟩) (.bool false) (.int .i64 0) (.int .i64 0) (.int .i64 0) (.slice none 0 0)).1.nine
  refine bodyPost_ret (v := .agg #[.int .i64 1, .string sn, .string sd, .string ⟨#[]⟩, .bool false, .int .i64 0, .int .i64 0, .int .i64 0, .slice none 0 0]) (by simp [results, Tryz.results10, go_sem, q0, q1, q2, q3, q4, q5, q6, q7, q8]) rfl ⟨sn, sd, rfl, ⟨nval_ok HRD.out, ⟨HSZ.out.1, HSZ.out.2, (by decide : (⟨#[]⟩ : ByteArray).size ≤ 9223372036854775807)⟩⟩, below_nine HL3.out.bel (by omega) _ _ _ _ _ _ _ _ _⟩
end Go.Proofs.YtllhefjblipddaaGreatDoor
