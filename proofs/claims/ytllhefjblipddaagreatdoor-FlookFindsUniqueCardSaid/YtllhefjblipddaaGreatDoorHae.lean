/- flook: UNIQUE of a column of whole numbers. -/
import Derived.Test.YtllhefjblipddaaGreatDoorHab
import Derived.Test.YtllhefjblipddaaGreatDoorHad
import Derived.Test.YtllhefjblipddaaGreatDoorFmS
import Derived.Test.YtllhefjblipddaaGreatDoorHaa
import Derived.Test.YtllhefjblipddaaGreatDoorGao
import Derived.Test.YtllhefjblipddaaGreatDoorFmR
import Derived.Test.YtllhefjblipddaaGreatDoorHaf
set_option linter.unusedSimpArgs false
set_option linter.unusedVariables false
namespace Go.Proofs.YtllhefjblipddaaGreatDoor
open Go.RowKit

/-- What UNIQUE answers: some of the numbers, each of them among these. -/
def PhU (R : Nat) (v : Nat → Nat) (h : Vl) (us : List Vl) : Prop := ∃ (m : Nat) (zs : List Nat), h = ⟨5, ⟨#[]⟩, ⟨#[]⟩, ⟨#[]⟩, false, 0, (m : Int), 1, none, 0, 0⟩ ∧ us = pkL zs v m ∧ zs.length = m ∧ 1 ≤ m ∧ m ≤ R ∧ (∀ i, i < m → zs[i]! < R) ∧ ∀ i, i < R → ∃ k, k < m ∧ v zs[k]! = v i
theorem flag_0 (q : Nat) (A : Option Addr) (n c : Nat) (W : World) (hq : Blk W q 90 #[.slice A n c, .int .i64 (n : Int)]) : Calls Tryz.prog 84 #[.pointer (some ⟨q, 0, none⟩), .bool false] W fun e w' => e = .returned (.bool false) ∧ Below W.heap.size W w' := by
  have HM := Lib.hid (more_any q A n c n W hq false (by simp))
  go_enter Tryz.func84, Tryz.ntmps84
  go_wp2_with (go_at_call 82; (with_reducible refine HM.out.mono ?_); rintro e w1 ⟨rfl, hb⟩; have HB := Lib.hid hb; clear hb)
  go_ret
  exact ⟨rfl, HB.out⟩
/-- Where UNIQUE stands. -/
structure US (W0 W : World) (q t p R : Nat) (b o cc : Nat) (A : Option Addr) (c : Nat) (w : World) : Prop where
  bel : Below W0.heap.size W0 w
  chg : Chg W.heap.size [q] W w
  zt : Blk w t 27 #[.int .i64 0, .string ⟨#[]⟩, .string ⟨#[]⟩, .string ⟨#[]⟩, .bool false, .int .i64 0, .int .i64 0, .int .i64 0, .slice none 0 0]
  arr : Blk w p 69 #[.int .i64 (R : Int), .int .i64 1, .slice (some ⟨b, o, none⟩) R cc]
  args : Blk w q 90 #[.slice A 1 c, .int .i64 ((1 : Nat) : Int)]
section
variable {W0 W : World} {q t p R b o cc c : Nat} {A : Option Addr} {w w' : World}
theorem US.step (h : US W0 W q t p R b o cc A c w) (hb : Below w.heap.size w w') : US W0 W q t p R b o cc A c w' := ⟨h.bel.trans (hb.mono h.bel.size), h.chg.next (Chg.of hb [q]), h.zt.later hb, h.arr.later hb, h.args.later hb⟩
theorem US.drewN (h : US W0 W q t p R b o cc A c w) (n : Nat) : US W0 W q t p R b o cc A c (w.drewN n) := h.step ⟨rfl, rfl, rfl, Nat.le_refl _, fun _ _ => rfl⟩
theorem US.stepB {B : Nat} (h : US W0 W q t p R b o cc A c w) (hb : Below B w w') (h0 : W0.heap.size ≤ B) (h1 : W.heap.size ≤ B) (ht : t < B) (hp : p < B) (hq : q < B) : US W0 W q t p R b o cc A c w' := ⟨h.bel.trans (hb.mono h0), h.chg.trans (Chg.of (hb.mono h1) [q]), h.zt.below hb ht, h.arr.below hb hp, h.args.below hb hq⟩
theorem US.chg1 {g : Nat} (h : US W0 W q t p R b o cc A c w) (hc : Chg w.heap.size [g] w w') (h0 : W0.heap.size ≤ g) (h1 : W.heap.size ≤ g) (ht : t < g) (hp : p < g) (hq : q < g) : US W0 W q t p R b o cc A c w' :=
  ⟨h.bel.trans (hc.below (Nat.le_trans h.bel.size (Nat.le_refl _) |> fun _ => h.bel.size) fun x hx => by rw [List.mem_singleton.1 hx]; exact h0), h.chg.trans (hc.mono h.chg.size fun x hx => .inr (by rw [List.mem_singleton.1 hx]; exact h1)), hc.blk h.zt h.zt.lt (by rw [List.mem_singleton]; omega), hc.blk h.arr h.arr.lt (by rw [List.mem_singleton]; omega), hc.blk h.args h.args.lt (by rw [List.mem_singleton]; omega)⟩
end
/-- What the rows are, when the first numbers of the order are through. -/
structure PZ (R : Nat) (v f : Nat → Nat) (zs : List Nat) (fr : Nat) : Prop where
  len : zs.length ≤ fr
  pos : 0 < fr → 0 < zs.length
  lt : ∀ i, i < zs.length → zs[i]! < R
  all : ∀ k, k < fr → ∃ i, i < zs.length ∧ v zs[i]! = v (f k)
theorem PZ.step {R : Nat} {v f : Nat → Nat} {zs : List Nat} {fr th x : Nat} (h : PZ R v f zs fr) (h1 : fr < th) (hx : x = f fr) (hxR : x < R) (hk : ∀ k, fr ≤ k → k < th → v (f k) = v (f fr)) : PZ R v f (zs ++ [x]) th := by
  refine ⟨by rw [List.length_append]; have := h.len; simp; omega, fun _ => by simp, fun i hi => ?_, fun k hk2 => ?_⟩
  · rw [List.length_append] at hi
    have hi : i < zs.length + 1 := hi
    rw [getElem!_pos _ i (by simp; omega)]
    rcases Nat.lt_or_ge i zs.length with h2 | h2
    · rw [List.getElem_append_left h2, ← getElem!_pos zs i h2]
      exact h.lt i h2
    · have e : i = zs.length := by omega
      subst e
      simp [hxR]
  · rcases Nat.lt_or_ge k fr with h2 | h2
    · obtain ⟨i, hi, e⟩ := h.all k h2
      refine ⟨i, by simp; omega, ?_⟩
      rw [getElem!_pos _ i (by simp; omega), List.getElem_append_left hi, ← getElem!_pos zs i hi]
      exact e
    · refine ⟨zs.length, by simp, ?_⟩
      rw [getElem!_pos _ _ (by simp), hk k h2 hk2, ← hx]
      simp
theorem R1.cap {E : TypeId} {K : IntKind} {w : World} {B g n c : Nat} {l : List Nat} (h : R1 E K w B (.slice (some ⟨g, 0, none⟩) n c) l) (hn : l.length = n) : n ≤ c := by
  rcases h.2 with ⟨h0, _⟩ | ⟨g1, cap, cur, e, _, _, h3, _⟩
  · cases h0
  · injection e with _ _ e
    omega
/-- The rows in another order. -/
theorem pz_perm {R : Nat} {v f : Nat → Nat} {zs zs' : List Nat} {m : Nat} (h : PZ R v f zs R) (hp : zs'.Perm zs) (hm : zs.length = m) (hf : Prm R f) : zs'.length = m ∧ (∀ i, i < m → zs'[i]! < R) ∧ ∀ i, i < R → ∃ k, k < m ∧ v zs'[k]! = v i := by
  have hl : zs'.length = m := hp.length_eq.trans hm
  refine ⟨hl, fun i hi => ?_, fun i hi => ?_⟩
  · have h1 : zs'[i]! ∈ zs := by
      rw [getElem!_pos zs' i (by omega)]
      exact hp.mem_iff.1 (List.getElem_mem _)
    obtain ⟨j, hj, e⟩ := List.getElem_of_mem h1
    rw [← e, ← getElem!_pos zs j hj]
    exact h.lt j hj
  · obtain ⟨k, hk, e⟩ := hf.2 i hi
    obtain ⟨j, hj, e2⟩ := h.all k hk
    have h1 : zs[j]! ∈ zs' := by
      rw [getElem!_pos zs j hj]
      exact hp.mem_iff.2 (List.getElem_mem _)
    obtain ⟨l, hl2, e3⟩ := List.getElem_of_mem h1
    refine ⟨l, by omega, ?_⟩
    rw [getElem!_pos zs' l hl2, e3, e2, e]
theorem rf_range (N : Nat) : (List.range N).map (fun x : Nat => x) = List.range N := by simp
set_option maxRecDepth 100000 in
set_option maxHeartbeats 16000000 in
theorem fU_any (B0 W0 W : World) (q : Nat) (A : Option Addr) (c : Nat) (u : Vl) (R : Nat) (v : Nat → Nat) (he : VEnv W0) (h0 : Below W0.heap.size W0 W) (hq0 : W0.heap.size ≤ q) (hq : Blk W q 90 #[.slice A 1 c, .int .i64 0]) (hA : Reads 9 csV W0 (.slice A 1 c) [u]) (hu : AR W0 u R 1 (nVs R v)) (hv : ∀ i, i < R → v i ≤ 1000) (hR : R ≤ 100) :
    Calls Tryz.prog 62 #[.pointer (some ⟨q, 0, none⟩)] W (ResG B0 W [q] (PhU R v)) := by
  obtain ⟨A2, n2, cc, rfl, hn, hr⟩ := hu.ex
  have r1 := hu.r1
  have hn2 : n2 = R := by rw [hn, Nat.mul_one]
  subst hn2
  obtain ⟨b, o, rfl⟩ : ∃ b o, A2 = some ⟨b, o, none⟩ := by
    obtain ⟨A', c', e, -, -, h3⟩ := hr
    injection e with e1 e2 e3
    obtain ⟨b, o, e4, -⟩ := h3 (by rw [nVs_len]; omega)
    exact ⟨b, o, e1.trans e4⟩
  generalize n2 = R at *
  have hmf : ∀ (fn : Fn) (first cap : Array Value) (w : World), (Instr.makeFunc fn first cap).run Tryz.prog w = .ok (.func fn first cap) w := fun _ _ _ _ => rfl
  have HV := Lib.hid (show Calls Tryz.prog 39 #[.pointer (some ⟨q, 0, none⟩)] (W.alloc (.cells #[.int .i64 0, .string ⟨#[]⟩, .string ⟨#[]⟩, .string ⟨#[]⟩, .bool false, .int .i64 0, .int .i64 0, .int .i64 0, .slice none 0 0] 27)) fun e w' => e = .returned (aV (R : Int) 1 (some ⟨b, o, none⟩) R cc) ∧ Blk w' q 90 #[.slice A 1 c, .int .i64 ((0 : Nat) + 1 : Int)] ∧ Below W0.heap.size W0 w' ∧ Chg (W.alloc (.cells #[.int .i64 0, .string ⟨#[]⟩, .string ⟨#[]⟩, .string ⟨#[]⟩, .bool false, .int .i64 0, .int .i64 0, .int .i64 0, .slice none 0 0] 27)).heap.size [q] (W.alloc (.cells #[.int .i64 0, .string ⟨#[]⟩, .string ⟨#[]⟩, .string ⟨#[]⟩, .bool false, .int .i64 0, .int .i64 0, .int .i64 0, .slice none 0 0] 27)) w' from value_b W0 (W.alloc (.cells #[.int .i64 0, .string ⟨#[]⟩, .string ⟨#[]⟩, .string ⟨#[]⟩, .bool false, .int .i64 0, .int .i64 0, .int .i64 0, .slice none 0 0] 27)) q A 1 c 0 _ (h0.trans ((below_al W _).mono h0.size)) hq0 (hq.alloc _) hA (by decide) (by decide))
  obtain ⟨t, ht⟩ : ∃ t, t = W.heap.size := ⟨_, rfl⟩
  have HRz := Lib.hid (Blk.new W 27 #[.int .i64 0, .string ⟨#[]⟩, .string ⟨#[]⟩, .string ⟨#[]⟩, .bool false, .int .i64 0, .int .i64 0, .int .i64 0, .slice none 0 0])
  rw [← ht] at HRz
  have hqt : q < t := by have := hq.lt; omega
  have htq : t ∉ [q] := fun h => by
    rw [List.mem_singleton] at h
    omega
  have HTQ := Lib.hid htq
  have HTS := Lib.hid (show t < (W.alloc (.cells #[.int .i64 0, .string ⟨#[]⟩, .string ⟨#[]⟩, .string ⟨#[]⟩, .bool false, .int .i64 0, .int .i64 0, .int .i64 0, .slice none 0 0] 27)).heap.size from by rw [ht]; simp)
  have HH := Lib.hid ht
  have HSZ := Lib.hid h0.size
  have HFL := Lib.hid fun w (h : Blk w q 90 #[.slice A 1 c, .int .i64 ((1 : Nat) : Int)]) => flag_0 q A 1 c w h
  have HE := Lib.hid he
  have HR0 := Lib.hid hr
  have HVV := Lib.hid hv
  clear htq hr h0 hq hA hu hn he hv
  go_enter Tryz.func62, Tryz.ntmps62
  go_upto_region 1 with fail
  rw [← ht]
  clear ht
  go_upto_region 2 with (first
    | (go_at_call 39; (with_reducible refine HV.out.mono ?_); rintro e w1 ⟨rfl, hq1, hb, hc⟩; have HQ1 := Lib.hid hq1; have HB1 := Lib.hid hb; have HC1 := Lib.hid ((Chg.of (below_al W _) [q]).next hc); have HRa := Lib.hid (hc.blk HRz.out HTS.out HTQ.out); clear hq1 hb hc HRz)
    | (go_at_call 38; (with_reducible refine (grid_a _ _ _ _ _ _).mono ?_); rintro e w2 ⟨rfl, hb⟩; have HQ2 := Lib.hid (HQ1.out.later hb); have HB2 := Lib.hid (HB1.out.trans (hb.mono HB1.out.size)); have HC2 := Lib.hid (HC1.out.next (Chg.of hb [q])); have HRb := Lib.hid (HRa.out.later hb); clear hb HQ1 HB1 HRa HC1))
  have hba := below_al w2 (.cells #[.int .i64 (R : Int), .int .i64 1, .slice (some ⟨b, o, none⟩) R cc] 69)
  have HU := Lib.hid (show US W0 W q t w2.heap.size R b o cc A c (w2.alloc (.cells #[.int .i64 (R : Int), .int .i64 1, .slice (some ⟨b, o, none⟩) R cc] 69)) from ⟨HB2.out.trans (hba.mono HB2.out.size), HC2.out.next (Chg.of hba [q]), HRb.out.later hba, Blk.new w2 69 #[.int .i64 (R : Int), .int .i64 1, .slice (some ⟨b, o, none⟩) R cc], HQ2.out.later hba⟩)
  have hpt : t < w2.heap.size := HRb.out.lt
  have hp0 : W0.heap.size ≤ w2.heap.size := HB2.out.size
  have HPW := Lib.hid (show w2.heap.size < (w2.alloc (.cells #[.int .i64 (R : Int), .int .i64 1, .slice (some ⟨b, o, none⟩) R cc] 69)).heap.size from by simp)
  clear HB2 HC2 HRb HQ2 hba
  revert HU hpt hp0 HPW
  generalize w2.alloc (.cells #[.int .i64 (R : Int), .int .i64 1, .slice (some ⟨b, o, none⟩) R cc] 69) = w3
  generalize w2.heap.size = p
  intro HU hpt hp0 HPW
  have HPT := Lib.hid (And.intro hpt hp0)
  clear hpt hp0
  go_upto_region 3 with (go_at_call 84; (with_reducible refine (HFL.out _ HU.out.args).mono ?_); rintro e w4 ⟨rfl, hb⟩; have HPW := Lib.hid (Nat.lt_of_lt_of_le HPW.out hb.size); have HU := Lib.hid (HU.out.step hb); clear hb)
  obtain ⟨Bs, hBs⟩ : ∃ Bs, Bs = w4.heap.size := ⟨_, rfl⟩
  have HS := Lib.hid (show Bs ≤ w4.heap.size from by omega)
  have HBs := Lib.hid (show W0.heap.size ≤ Bs ∧ W.heap.size ≤ Bs ∧ t < Bs ∧ p < Bs ∧ q < Bs from by
    have h1 := HPT.out
    have h2 := HPW.out
    have h3 := HH.out
    exact ⟨by omega, by omega, by omega, by omega, by omega⟩)
  clear hBs HPW HFL HV
  have g0 := HU.out.arr.cell 0
  simp only [List.getElem?_toArray, List.getElem?_cons_succ, List.getElem?_cons_zero] at g0
  go_upto_block 0 with fail
  clear g0
  go_cut [6] (fun u6 wz => Hid (R1 3 .i64 wz Bs u6 (List.range R)) ∧ Hid (US W0 W q t p R b o cc A c wz) ∧ Hid (Bs ≤ wz.heap.size))
  case first =>
    go_wp2_with fail
    go_loopw [6, 23] (fun u6 u23 wz => ∃ j : Nat, j ≤ R ∧ u23 = .int .i64 (j : Int) ∧ Hid (R1 3 .i64 wz Bs u6 (List.range j)) ∧ Hid (US W0 W q t p R b o cc A c wz) ∧ Hid (Bs ≤ wz.heap.size)) (fun _ u _ => R - (intOf u).toNat)
    case atStart => exact ⟨0, by omega, rfl, Lib.hid (R1.nil _ _), HU, HS⟩
    case round =>
      clear HU HS
      obtain ⟨j, hj, rfl, HO, HU, HS⟩ := hrel
      by_cases hlt : j < R
      · have hlz : (j : Int) < (R : Int) := by omega
        have j1 : IntKind.i64.wrap ((j : Int) + 1) = (j : Int) + 1 := IntWalk.i64_in _ (by omega)
        obtain ⟨LL, hLL⟩ : ∃ LL, LL = List.range j := ⟨_, rfl⟩
        have HLL := Lib.hid hLL
        have HLW := Lib.hid (show LL.length = j from by rw [hLL]; simp)
        rw [← hLL] at HO
        clear hLL
        go_wp2_with (at_builtin; go_loud (refine wp_appI rfl _ _ rfl Bs _ LL rfl HO.out (j : Int) j rfl rfl (by have := HLW.out; omega) HS.out ?_; intro v3 w5 ho hb _; have HO3 := Lib.hid ho; have HU3 := Lib.hid (HU.out.stepB hb HBs.out.1 HBs.out.2.1 HBs.out.2.2.1 HBs.out.2.2.2.1 HBs.out.2.2.2.2); have HS3 := Lib.hid (Nat.le_trans HS.out hb.size); clear ho hb))
        go_roundw
        case rel => exact ⟨j + 1, by omega, by go_num, Lib.hid (by have := HO3.out; rw [HLL.out] at this; rw [List.range_succ]; exact this), HU3, HS3⟩
        case measure => simp [intOf]; omega
      · obtain rfl : j = R := by omega
        go_wp2_with fail
        go_meet
        exact ⟨HO, HU, HS⟩
  case rest =>
    clear HU HS
    obtain ⟨HO, HU, HS⟩ := hcut
    obtain ⟨g, c', rfl, hg1, hg2⟩ := HO.out.form (by simp; omega)
    have hlr : (List.range R).length = R := by simp
    rw [hlr] at HO ⊢
    have HSS := Lib.hid (show SS R Bs g wc wc from ⟨⟨fun x => x, ⟨c', by rw [rf_range]; exact HO.out⟩, Prm.id R⟩, Chg.refl _ _ _⟩)
    have HG := Lib.hid (And.intro hg1 hg2)
    clear HO hlr hg1 hg2
    have HCZ := Lib.hid (show CmpZ wc g R p from fun W' hW i k hi hk => by
      have hb : Below W0.heap.size W0 W' := HU.out.bel.trans (hW.below HU.out.bel.size fun x hx => by
        rw [List.mem_singleton.1 hx]
        have := HBs.out.1
        have := HG.out.1
        omega)
      refine (uniq1_any R p i k b o cc v W' (HE.out.below hb) hi hk (by omega) HVV.out (hW.blk HU.out.arr HU.out.arr.lt (by rw [List.mem_singleton]; have := HBs.out.2.2.2.1; have := HG.out.1; omega)) (HR0.out.below hb)).mono ?_
      rintro e w' ⟨z, h1, -, h3⟩
      exact ⟨z, h1, h3⟩)
    have HSO := Lib.hid (sortI_any R Bs g c' p wc HSS.out HCZ.out (by omega))
    clear HSS HCZ
    go_upto_region 12 with (go_at_call 102; (with_reducible refine HSO.out.mono ?_); rintro e w6 ⟨rfl, hs⟩; obtain ⟨⟨f, hf, hp⟩, hc⟩ := hs; have HF := Lib.hid hf; have HPM := Lib.hid hp; have HU6 := Lib.hid (HU.out.chg1 hc (by have := HBs.out.1; have := HG.out.1; omega) (by have := HBs.out.2.1; have := HG.out.1; omega) (by have := HBs.out.2.2.1; have := HG.out.1; omega) (by have := HBs.out.2.2.2.1; have := HG.out.1; omega) (by have := HBs.out.2.2.2.2; have := HG.out.1; omega)); have HGL := Lib.hid (show Bs ≤ g ∧ g < w6.heap.size from hf.lt); clear hf hp hc)
    clear HU HS HG HSO
    obtain ⟨Bt, hBt⟩ : ∃ Bt, Bt = w6.heap.size := ⟨_, rfl⟩
    have HS := Lib.hid (show Bt ≤ w6.heap.size from by omega)
    have HBt := Lib.hid (show W0.heap.size ≤ Bt ∧ W.heap.size ≤ Bt ∧ t < Bt ∧ p < Bt ∧ q < Bt ∧ g < Bt from by
      have h1 := HBs.out
      have h2 := HGL.out
      exact ⟨by omega, by omega, by omega, by omega, by omega, by omega⟩)
    clear hBt HGL
    go_upto_block 2 with fail
    go_cut [7] (fun u7 wz => ∃ zs : List Nat, Hid (R1 3 .i64 wz Bt u7 zs) ∧ Hid (PZ R v f zs R) ∧ Hid (US W0 W q t p R b o cc A c wz) ∧ Hid (Bt ≤ wz.heap.size))
    case first =>
      go_wp2_with fail
      go_loopw [7, 9] (fun u7 u9 wz => ∃ (fr : Nat) (zs : List Nat), fr ≤ R ∧ u9 = .int .i64 (fr : Int) ∧ Hid (PZ R v f zs fr) ∧ Hid (US W0 W q t p R b o cc A c wz) ∧ Hid (RF R wz Bs g f) ∧ Hid (R1 3 .i64 wz Bt u7 zs) ∧ Hid (Bt ≤ wz.heap.size)) (fun _ u _ => R - (intOf u).toNat)
      case atStart => exact ⟨0, [], by omega, rfl, Lib.hid ⟨by simp, fun h => absurd h (by omega), fun i hi => absurd hi (by simp), fun k hk => absurd hk (by omega)⟩, HU6, HF, Lib.hid (R1.nil _ _), HS⟩
      case round =>
        clear HU6 HF HS
        obtain ⟨fr, zs, hfr, rfl, HZ, HU, HF, HO, HS⟩ := hrel
        by_cases hlt : fr < R
        · have hlz : (fr : Int) < (R : Int) := by omega
          have j1 : IntKind.i64.wrap ((fr : Int) + 1) = (fr : Int) + 1 := IntWalk.i64_in _ (by omega)
          go_upto_block 4 with fail
          go_cut [10] (fun u10 wz => ∃ th : Nat, u10 = .int .i64 (th : Int) ∧ fr < th ∧ th ≤ R ∧ Hid (∀ k, fr ≤ k → k < th → v (f k) = v (f fr)) ∧ Hid (US W0 W q t p R b o cc A c wz) ∧ Hid (RF R wz Bs g f) ∧ Hid (R1 3 .i64 wz Bt u7 zs) ∧ Hid (Bt ≤ wz.heap.size))
          case first =>
            go_wp2_with fail
            go_loopw [10] (fun u10 wz => ∃ th : Nat, u10 = .int .i64 (th : Int) ∧ fr < th ∧ th ≤ R ∧ Hid (∀ k, fr ≤ k → k < th → v (f k) = v (f fr)) ∧ Hid (US W0 W q t p R b o cc A c wz) ∧ Hid (RF R wz Bs g f) ∧ Hid (R1 3 .i64 wz Bt u7 zs) ∧ Hid (Bt ≤ wz.heap.size)) (fun u _ => R - (intOf u).toNat)
            case atStart => exact ⟨fr + 1, by go_num, by omega, by omega, Lib.hid (fun k h1 h2 => by rw [show k = fr by omega]), HU, HF, HO, HS⟩
            case round =>
              clear HU HF HO HS
              obtain ⟨th, rfl, h1, h2, HK, HU, HF, HO, HS⟩ := hrel
              by_cases hlr : th < R
              · have hlz2 : (th : Int) < (R : Int) := by omega
                have k1 : IntKind.i64.wrap ((th : Int) + 1) = (th : Int) + 1 := IntWalk.i64_in _ (by omega)
                have y1 : 0 ≤ (fr : Int) := by omega
                have y2 : 0 ≤ (th : Int) := by omega
                have hx := HPM.out.1 fr hlt
                have hy := HPM.out.1 th hlr
                have c3 := HF.out.cell hlt
                have c4 := HF.out.cell hlr
                obtain ⟨x, hxe⟩ : ∃ x, x = f fr := ⟨_, rfl⟩
                obtain ⟨y, hye⟩ : ∃ y, y = f th := ⟨_, rfl⟩
                rw [← hxe] at hx c3 HK
                rw [← hye] at hy c4
                have HXY := Lib.hid (And.intro hxe hye)
                clear hxe hye
                have HR1 := Lib.hid (show ∀ W', Below W0.heap.size W0 W' → Calls Tryz.prog 85 #[.agg #[.int .i64 (R : Int), .int .i64 1, .slice (some ⟨b, o, none⟩) R cc], .int .i64 (x : Int)] W' fun e w' => e = .returned (.slice (some ⟨b, o + x * 9, none⟩) 1 (cc - x)) ∧ Reads 9 csV w' (.slice (some ⟨b, o + x * 9, none⟩) 1 (cc - x)) [nV (v x)] ∧ Below W'.heap.size W' w' from fun W' hW => row1_a R x b o cc v W0 hx (by omega) HR0.out W' hW)
                have HR2 := Lib.hid (show ∀ W', Below W0.heap.size W0 W' → Calls Tryz.prog 85 #[.agg #[.int .i64 (R : Int), .int .i64 1, .slice (some ⟨b, o, none⟩) R cc], .int .i64 (y : Int)] W' fun e w' => e = .returned (.slice (some ⟨b, o + y * 9, none⟩) 1 (cc - y)) ∧ Reads 9 csV w' (.slice (some ⟨b, o + y * 9, none⟩) 1 (cc - y)) [nV (v y)] ∧ Below W'.heap.size W' w' from fun W' hW => row1_a R y b o cc v W0 hy (by omega) HR0.out W' hW)
                have HAL := Lib.hid fun W' (hW : Below W0.heap.size W0 W') (h1 : Reads 9 csV W' (.slice (some ⟨b, o + x * 9, none⟩) 1 (cc - x)) [nV (v x)]) (h2 : Reads 9 csV W' (.slice (some ⟨b, o + y * 9, none⟩) 1 (cc - y)) [nV (v y)]) => alike_any b (o + x * 9) (cc - x) b (o + y * 9) (cc - y) (v x) (v y) W' (HE.out.below hW) (HVV.out x hx) (HVV.out y hy) h1 h2
                obtain ⟨ox, hox⟩ : ∃ ox, ox = o + x * 9 := ⟨_, rfl⟩
                obtain ⟨oy, hoy⟩ : ∃ oy, oy = o + y * 9 := ⟨_, rfl⟩
                rw [← hox] at HR1 HAL
                rw [← hoy] at HR2 HAL
                have c0 := HU.out.arr.cell 0
                have c1 := HU.out.arr.cell 1
                have c2 := HU.out.arr.cell 2
                simp only [List.getElem?_toArray, List.getElem?_cons_succ, List.getElem?_cons_zero] at c0 c1 c2
                have HSC := Lib.hid (show ∀ w', Below wr.heap.size wr w' → w'.cell? ⟨p, 0, none⟩ = some (.int .i64 (R : Int)) ∧ w'.cell? ⟨p, 1, none⟩ = some (.int .i64 1) ∧ w'.cell? ⟨p, 2, none⟩ = some (.slice (some ⟨b, o, none⟩) R cc) ∧ w'.cell? ⟨g, fr, none⟩ = some (.int .i64 (x : Int)) ∧ w'.cell? ⟨g, th, none⟩ = some (.int .i64 (y : Int)) from fun w' hw => ⟨(hw.cell HU.out.arr.lt).trans c0, (hw.cell HU.out.arr.lt).trans c1, (hw.cell HU.out.arr.lt).trans c2, (hw.cell HF.out.lt.2).trans c3, (hw.cell HF.out.lt.2).trans c4⟩)
                have HB0 := Lib.hid (show Below wr.heap.size wr wr from Below.refl _ _)
                have HUB := Lib.hid (show ∀ w', Below wr.heap.size wr w' → Below W0.heap.size W0 w' from fun w' hw => (HU.out.step hw).bel)
                clear hox hoy hx hy
                go_upto_region 15 with fail
                go_region_held3 (fun w' => w'.cell? ⟨p, 0, none⟩ = some (.int .i64 (R : Int)) ∧ w'.cell? ⟨p, 1, none⟩ = some (.int .i64 1) ∧ w'.cell? ⟨p, 2, none⟩ = some (.slice (some ⟨b, o, none⟩) R cc) ∧ w'.cell? ⟨g, fr, none⟩ = some (.int .i64 (x : Int)) ∧ w'.cell? ⟨g, th, none⟩ = some (.int .i64 (y : Int))) (first | exact ⟨by assumption, by assumption, by assumption, by assumption, by assumption⟩ | exact HSC.out _ HB3.out | exact HSC.out _ HB2.out | exact HSC.out _ HB1.out) (first
                  | (go_at_call 85; (with_reducible refine (HR1.out _ (HUB.out _ HB0.out.drew)).mono ?_); rintro e w1 ⟨rfl, hr, hb⟩; have HB1 := Lib.hid (HB0.out.drew.trans hb); have HD1 := Lib.hid hr; clear hr hb)
                  | (go_at_call 85; (with_reducible refine (HR2.out _ (HUB.out _ HB1.out)).mono ?_); rintro e w2 ⟨rfl, hr, hb⟩; have HB2 := Lib.hid (HB1.out.trans (hb.mono HB1.out.size)); have HD2 := Lib.hid hr; have HD1b := Lib.hid (HD1.out.below hb); clear hr hb)
                  | (go_at_call 104; (with_reducible refine (HAL.out _ (HUB.out _ HB2.out) HD1b.out HD2.out).mono ?_); rintro e w3 ⟨z, rfl, hz, hb⟩; have HB3 := Lib.hid (HB2.out.trans (hb.mono HB2.out.size)); have HZZ := Lib.hid hz; clear hz hb))
                clear c0 c1 c2 c3 c4 HSC
                have HU3 := Lib.hid (HU.out.step HB3.out)
                have HF3 := Lib.hid (HF.out.later HB3.out)
                have HO3 := Lib.hid (HO.out.later HB3.out)
                have HS3 := Lib.hid (Nat.le_trans HS.out HB3.out.size)
                clear HU HF HO HS HB3 HB2 HB1 HB0 HD1 HD2 HD1b HR1 HR2 HAL HUB
                by_cases hz : z = 0
                · have hz1 : (z == 0) = true := by rw [beq_iff_eq]; exact hz
                  have HZ0 := Lib.hid (HZZ.out.1 hz)
                  go_wp2_with fail
                  go_roundw
                  case rel => exact ⟨th + 1, by go_num, by omega, by omega, Lib.hid (fun k k1 k2 => by
                    rcases Nat.lt_or_ge k th with h | h
                    · rw [HK.out k k1 h, HXY.out.1]
                    · rw [show k = th by omega, ← HXY.out.2, ← HZ0.out, HXY.out.1]), HU3, HF3, HO3, HS3⟩
                  case measure => simp [intOf]; omega
                · have hz1 : (z == 0) = false := by rw [beq_eq_false_iff_ne]; exact hz
                  go_wp2_with fail
                  go_meet
                  exact ⟨th, rfl, h1, h2, Lib.hid (fun k k1 k2 => by rw [HK.out k k1 k2, HXY.out.1]), HU3, HF3, HO3, HS3⟩
              · obtain rfl : th = R := by omega
                go_wp2_with fail
                go_quiet (fail)
                go_wp2_with fail
                go_meet
                exact ⟨th, rfl, h1, h2, HK, Lib.hid (by first | exact HU.out | exact HU.out.drewN _), Lib.hid (by first | exact HF.out | exact HF.out.drewN _), Lib.hid (by first | exact HO.out | exact HO.out.drewN _), Lib.hid (by first | exact HS.out | exact HS.out)⟩
          case rest =>
            clear HU HF HO HS
            obtain ⟨th, rfl, h1, h2, HK, HU, HF, HO, HS⟩ := hcut
            have c3 := HF.out.cell hlt
            have hx := HPM.out.1 fr hlt
            obtain ⟨x, hxe⟩ : ∃ x, x = f fr := ⟨_, rfl⟩
            rw [← hxe] at c3 hx
            have HZN := Lib.hid (HZ.out.step h1 hxe hx HK.out)
            have y1 : 0 ≤ (fr : Int) := by omega
            clear hxe
            go_wp2_with (at_builtin; go_loud (refine wp_appI rfl _ _ rfl Bt _ zs rfl HO.out (x : Int) x rfl rfl (by have := HZ.out.len; omega) HS.out ?_; intro v3 w5 ho hb _; have HO3 := Lib.hid ho; have HU3 := Lib.hid (HU.out.stepB hb HBt.out.1 HBt.out.2.1 HBt.out.2.2.1 HBt.out.2.2.2.1 HBt.out.2.2.2.2.1); have HF3 := Lib.hid (HF.out.chg (Chg.of hb []) HBt.out.2.2.2.2.2 (by simp)); have HS3 := Lib.hid (Nat.le_trans HS.out hb.size); clear ho hb))
            go_roundw
            case rel => exact ⟨th, zs ++ [x], by omega, rfl, HZN, HU3, HF3, HO3, HS3⟩
            case measure => simp [intOf]; omega
        · obtain rfl : fr = R := by omega
          go_wp2_with fail
          go_meet
          exact ⟨zs, HO, HZ, HU, HS⟩
    case rest =>
      clear HU6 HF HS
      obtain ⟨zs, HO, HZ, HU, HS⟩ := hcut
      obtain ⟨h, c2, rfl, hg1, hg2⟩ := HO.out.form (HZ.out.pos (by omega))
      obtain ⟨m, hm⟩ : ∃ m, m = zs.length := ⟨_, rfl⟩
      have hmp : 1 ≤ m := by have := HZ.out.pos (by omega); omega
      have hmR : m ≤ R := by have := HZ.out.len; omega
      rw [← hm] at HO ⊢
      have HSR := Lib.hid (sortN_any zs h c2 Bt m wc HO.out hm.symm (by omega) (HO.out.cap hm.symm))
      have HPP := Lib.hid fun (zs' : List Nat) (hp : zs'.Perm zs) => pz_perm HZ.out hp hm.symm HPM.out
      have HHG := Lib.hid hg1
      clear hm hg1 hg2 HZ HO
      go_upto_region 21 with (go_at_call 105; (with_reducible refine HSR.out.mono ?_); rintro e w7 ⟨rfl, ⟨zs', hp, hrd⟩, hc⟩; have HZ' := Lib.hid (HPP.out zs' hp); have HRD := Lib.hid hrd; have HU7 := Lib.hid (HU.out.chg1 hc (Nat.le_trans HBt.out.1 HHG.out) (Nat.le_trans HBt.out.2.1 HHG.out) (Nat.lt_of_lt_of_le HBt.out.2.2.1 HHG.out) (Nat.lt_of_lt_of_le HBt.out.2.2.2.1 HHG.out) (Nat.lt_of_lt_of_le HBt.out.2.2.2.2.1 HHG.out)); clear hp hrd hc HU)
      have HPK := Lib.hid (show Calls Tryz.prog 90 #[.agg #[.int .i64 (R : Int), .int .i64 1, .slice (some ⟨b, o, none⟩) R cc], .slice (some ⟨h, 0, none⟩) m c2] w7 fun e w' => ∃ g c', e = .returned (.agg #[.int .i64 (m : Int), .int .i64 1, .slice (some ⟨g, 0, none⟩) m c']) ∧ Reads 9 csV w' (.slice (some ⟨g, 0, none⟩) m c') (pkL zs' v m) ∧ w7.heap.size ≤ g ∧ Below w7.heap.size w7 w' from pick1_a R m b o cc (some ⟨h, 0, none⟩) c2 v zs' w7 r1 (by omega) (HR0.out.below HU7.out.bel) hmp HZ'.out.1 (by omega) HZ'.out.2.1 HRD.out)
      have c0 := HU7.out.arr.cell 0
      have c1 := HU7.out.arr.cell 1
      have c2' := HU7.out.arr.cell 2
      simp only [List.getElem?_toArray, List.getElem?_cons_succ, List.getElem?_cons_zero] at c0 c1 c2'
      go_upto_region 22 with (go_at_call 90; (with_reducible refine HPK.out.mono ?_); rintro e w8 ⟨g2, c3, rfl, hr8, hg8, hb8⟩; have HR8 := Lib.hid hr8; have HG8 := Lib.hid (show g2 ≠ p ∧ g2 ≠ t ∧ W.heap.size ≤ g2 from ⟨(by have := HU7.out.arr.lt; omega), (by have := HU7.out.zt.lt; omega), (by have := HU7.out.chg.size; omega)⟩); have HU8 := Lib.hid (HU7.out.step hb8); clear hr8 hg8 hb8 c0 c1 c2'; obtain ⟨z0, z1, z2, f0, f1, f2⟩ := HU8.out.arr.three)
      clear z0 z1 z2 f0 f1 f2
      have HA9 := Lib.hid (HU8.out.arr.three_set (.int .i64 (m : Int)) (.int .i64 1) (.slice (some ⟨g2, 0, none⟩) m c3)).1
      have hpt := HPT.out.1
      have hH := HH.out
      have HT9 := Lib.hid (show Blk (((w8.setCell ⟨p, 0, none⟩ (.int .i64 (m : Int))).setCell ⟨p, 1, none⟩ (.int .i64 1)).setCell ⟨p, 2, none⟩ (.slice (some ⟨g2, 0, none⟩) m c3)) t 27 #[.int .i64 0, .string ⟨#[]⟩, .string ⟨#[]⟩, .string ⟨#[]⟩, .bool false, .int .i64 0, .int .i64 0, .int .i64 0, .slice none 0 0] from ((HU8.out.zt.far (p := ⟨p, 0, none⟩) (by show t ≠ p; omega) _).far (p := ⟨p, 1, none⟩) (by show t ≠ p; omega) _).far (p := ⟨p, 2, none⟩) (by show t ≠ p; omega) _)
      have HC9 := Lib.hid (show Chg W.heap.size [q] W (((w8.setCell ⟨p, 0, none⟩ (.int .i64 (m : Int))).setCell ⟨p, 1, none⟩ (.int .i64 1)).setCell ⟨p, 2, none⟩ (.slice (some ⟨g2, 0, none⟩) m c3)) from ((HU8.out.chg.set (p := ⟨p, 0, none⟩) (.inr (by show W.heap.size ≤ p; omega)) _).set (p := ⟨p, 1, none⟩) (.inr (by show W.heap.size ≤ p; omega)) _).set (p := ⟨p, 2, none⟩) (.inr (by show W.heap.size ≤ p; omega)) _)
      have hc3 : Chg w8.heap.size [p] w8 (((w8.setCell ⟨p, 0, none⟩ (.int .i64 (m : Int))).setCell ⟨p, 1, none⟩ (.int .i64 1)).setCell ⟨p, 2, none⟩ (.slice (some ⟨g2, 0, none⟩) m c3)) := (((Chg.refl w8.heap.size [p] w8).set (p := ⟨p, 0, none⟩) (.inl (List.mem_singleton.2 rfl)) _).set (p := ⟨p, 1, none⟩) (.inl (List.mem_singleton.2 rfl)) _).set (p := ⟨p, 2, none⟩) (.inl (List.mem_singleton.2 rfl)) _
      have HR9 := Lib.hid (reads_same2 HR8.out hc3.size fun bb oo e hb => hc3.block bb hb (by
        injection e with e
        injection e with e
        rw [List.mem_singleton, ← e]
        exact HG8.out.1))
      clear HU8 HR8 hc3 hpt hH
      revert HA9 HT9 HC9 HR9
      generalize ((w8.setCell ⟨p, 0, none⟩ (.int .i64 (m : Int))).setCell ⟨p, 1, none⟩ (.int .i64 1)).setCell ⟨p, 2, none⟩ (.slice (some ⟨g2, 0, none⟩) m c3) = w9
      intro HA9 HT9 HC9 HR9
      have HGV := Lib.hid fun W' => (show Calls Tryz.prog 43 #[.agg #[.int .i64 (m : Int), .int .i64 1, .slice (some ⟨g2, 0, none⟩) m c3]] W' fun e w' => e = .returned (aV (m : Int) 1 (some ⟨g2, 0, none⟩) m c3) ∧ Below W'.heap.size W' w' from gval_a (m : Int) 1 (some ⟨g2, 0, none⟩) m c3 W' (by omega) (by omega) (by omega) (by omega))
      obtain ⟨x0, x1, x2, -⟩ := HA9.out.three
      go_upto_region 99 with (go_at_call 43; (with_reducible refine (HGV.out _).mono ?_); rintro e w10 ⟨rfl, hb⟩; have HRX := Lib.hid (HR9.out.below hb); have HCX := Lib.hid (HC9.out.next (Chg.of hb [q])); have HTX := Lib.hid (HT9.out.later hb); clear hb x0 x1 x2; obtain ⟨f0, f1, f2, f3, f4, f5, f6, f7, f8⟩ := HTX.out.ninef; obtain ⟨z0, z1, z2, z3, z4, z5, z6, z7, z8⟩ := HTX.out.nine)
      clear f0 f1 f2 f3 f4 f5 f6 f7 f8 z0 z1 z2 z3 z4 z5 z6 z7 z8
      obtain ⟨q0, q1, q2, q3, q4, q5, q6, q7, q8⟩ := (HTX.out.nine_set (.int .i64 5) (.string ⟨#[]⟩) (.string ⟨#[]⟩) (.string ⟨#[]⟩) (.bool false) (.int .i64 0) (.int .i64 (m : Int)) (.int .i64 1) (.slice (some ⟨g2, 0, none⟩) m c3)).1.nine
      have hcn := chg_nine w10 t (.int .i64 5) (.string ⟨#[]⟩) (.string ⟨#[]⟩) (.string ⟨#[]⟩) (.bool false) (.int .i64 0) (.int .i64 (m : Int)) (.int .i64 1) (.slice (some ⟨g2, 0, none⟩) m c3)
      refine bodyPost_ret (v := aV (m : Int) 1 (some ⟨g2, 0, none⟩) m c3) (by simp [results, Tryz.results62, go_sem, q0, q1, q2, q3, q4, q5, q6, q7, q8]) rfl ⟨5, ⟨#[]⟩, ⟨#[]⟩, ⟨#[]⟩, false, 0, (m : Int), 1, some ⟨g2, 0, none⟩, m, c3, pkL zs' v m, rfl, ⟨m, zs', rfl, rfl, HZ'.out.1, hmp, hmR, HZ'.out.2.1, HZ'.out.2.2⟩, reads_same2 HRX.out hcn.size (fun bb oo e hb => hcn.block bb hb (by
        injection e with e
        injection e with e
        rw [List.mem_singleton, ← e]
        exact HG8.out.2.1)), fun bb oo e => .inr (by injection e with e; injection e with e; have := HG8.out.2.2; omega), HCX.out.trans (hcn.mono HCX.out.size fun x hx => .inr (by
        rw [List.mem_singleton.1 hx, HH.out]
        exact Nat.le_refl _))⟩
end Go.Proofs.YtllhefjblipddaaGreatDoor

namespace Go.Proofs.YtllhefjblipddaaGreatDoor
open Go.RowKit

theorem look_n (W : World) (name : ByteArray) (y : EY) (hf : (tabL.find? fun y => sameT y.1 name) = some y) (A : Option Addr) (n c : Nat) (Φ : Vl → List Vl → Prop) (avs : List Vl) (hΦ : ∀ h us, Φ h us → HdOk h us) (he : VEnv W) (hA : Reads 9 csV W (.slice A n c) avs) (hn1 : 1 ≤ n) (hn2 : n ≤ 3) (h1 : y.2.1 ≤ (n : Int)) (h2 : (n : Int) ≤ y.2.2.1) (hk0 : y.2.2.2.1.toList.isEmpty = false)
    (hTR : ∀ W', Calls Tryz.prog 72 #[.string y.2.2.2.1, .string ⟨#[115, 97]⟩] W' fun e w' => e = .returned (.string ⟨#[]⟩) ∧ Below W'.heap.size W' w')
    (hLT : ∀ i, i < n → ∃ l : Int, (∀ W', Calls Tryz.prog 73 #[.string y.2.2.2.1, .int .i64 (i : Int)] W' fun e w' => e = .returned (.int .u8 l) ∧ W' = w') ∧ (l = 115 → ¬ avs[i]!.k = 5))
    (hCK : ∀ i, i < n → ∀ W', Below W.heap.size W W' → Calls Tryz.prog 71 #[avs[i]!.v] W' fun e w' => e = .returned (.int .i64 0) ∧ Below W'.heap.size W' w')
    (hVD : ∀ (k : Int) (num den text : ByteArray) (on : Bool) (code rr rc : Int) (A2 : Option Addr) (n2 c2 : Nat) (us : List Vl) (W' : World), VEnv W' → Φ ⟨k, num, den, text, on, code, rr, rc, none, 0, 0⟩ us → Reads 9 csV W' (.slice A2 n2 c2) us → Calls Tryz.prog 23 #[.agg #[.int .i64 k, .string num, .string den, .string text, .bool on, .int .i64 code, .int .i64 rr, .int .i64 rc, .slice A2 n2 c2]] W' fun e w' => e = .returned (.agg #[.int .i64 k, .string num, .string den, .string text, .bool on, .int .i64 code, .int .i64 rr, .int .i64 rc, .slice A2 n2 c2]) ∧ Below W'.heap.size W' w')
    (hE : ∀ (B0 W1 W' : World) (p : Nat) (A1 : Option Addr) (c1 : Nat), Blk W' p 65 #[.func (.func y.2.2.2.2) #[] #[]] → B0.heap.size ≤ W1.heap.size → Below W1.heap.size W1 W' → (∀ W'' q, Below W1.heap.size W1 W'' → W1.heap.size ≤ q → Blk W'' q 90 #[.slice A1 n c1, .int .i64 0] → Calls Tryz.prog y.2.2.2.2 #[.pointer (some ⟨q, 0, none⟩)] W'' (ResG B0 W'' [q] Φ)) → Calls Tryz.prog 75 #[.slice A1 n c1, .pointer (some ⟨p, 0, none⟩)] W' (ResG B0 W' [] Φ))
    (hF : ∀ (B0 W0 W'' : World) (q : Nat) (A1 : Option Addr) (c1 : Nat), Below W.heap.size W B0 → Below B0.heap.size B0 W0 → Below W0.heap.size W0 W'' → W0.heap.size ≤ q → Blk W'' q 90 #[.slice A1 n c1, .int .i64 0] → Reads 9 csV W0 (.slice A1 n c1) avs → Calls Tryz.prog y.2.2.2.2 #[.pointer (some ⟨q, 0, none⟩)] W'' (ResG B0 W'' [q] Φ)) :
    Calls Tryz.prog 7 #[.string name, .slice A n c] W (VRes W Φ) :=
  look_gg W name y hf A n c Φ h1 h2 fun W' x p hW hx hp =>
    lift_g W' y.2.2.2.1 A n c x avs Φ hΦ (hA.below hW) hn1 (by omega) hk0 hTR hLT (fun i hi W2 hb => hCK i hi W2 (hW.trans (hb.mono hW.size)))
      (fun W1 A1 c1 hW1 hA1 => run1_g W' W1 x p y.2.1 y.2.2.1 y.2.2.2.1 A1 n c1 Φ hΦ (hx.later hW1) hW1.size fun W2 hW2 => hE W' W1 W2 p A1 c1 ((hp.later hW1).later hW2) hW1.size hW2 fun W3 q h3 hq hb => hF W' W1 W3 q A1 c1 hW hW1 h3 hq hb hA1)
      (fun k num den text on code rr rc A2 n2 c2 us W2 hb hP hr => hVD k num den text on code rr rc A2 n2 c2 us W2 (he.below (hW.trans (hb.mono hW.size))) hP hr)
/-- The function stops. -/
theorem look_p (W : World) (name : ByteArray) (y : EY) (hf : (tabL.find? fun y => sameT y.1 name) = some y) (A : Option Addr) (n c : Nat) (Φ : Vl → List Vl → Prop) (avs : List Vl) (hΦ : ∀ h us, Φ h us → HdOk h us) (he : VEnv W) (hA : Reads 9 csV W (.slice A n c) avs) (hn1 : 1 ≤ n) (hn2 : n ≤ 3) (h1 : y.2.1 ≤ (n : Int)) (h2 : (n : Int) ≤ y.2.2.1) (hk0 : y.2.2.2.1.toList.isEmpty = false)
    (hTR : ∀ W', Calls Tryz.prog 72 #[.string y.2.2.2.1, .string ⟨#[115, 97]⟩] W' fun e w' => e = .returned (.string ⟨#[]⟩) ∧ Below W'.heap.size W' w')
    (hLT : ∀ i, i < n → ∃ l : Int, (∀ W', Calls Tryz.prog 73 #[.string y.2.2.2.1, .int .i64 (i : Int)] W' fun e w' => e = .returned (.int .u8 l) ∧ W' = w') ∧ (l = 115 → ¬ avs[i]!.k = 5))
    (hCK : ∀ i, i < n → ∀ W', Below W.heap.size W W' → Calls Tryz.prog 71 #[avs[i]!.v] W' fun e w' => e = .returned (.int .i64 0) ∧ Below W'.heap.size W' w')
    (hVD : ∀ (k : Int) (num den text : ByteArray) (on : Bool) (code rr rc : Int) (A2 : Option Addr) (n2 c2 : Nat) (us : List Vl) (W' : World), VEnv W' → Φ ⟨k, num, den, text, on, code, rr, rc, none, 0, 0⟩ us → Reads 9 csV W' (.slice A2 n2 c2) us → Calls Tryz.prog 23 #[.agg #[.int .i64 k, .string num, .string den, .string text, .bool on, .int .i64 code, .int .i64 rr, .int .i64 rc, .slice A2 n2 c2]] W' fun e w' => e = .returned (.agg #[.int .i64 k, .string num, .string den, .string text, .bool on, .int .i64 code, .int .i64 rr, .int .i64 rc, .slice A2 n2 c2]) ∧ Below W'.heap.size W' w') (j : Nat) (j1 : 1 ≤ j) (j8 : j ≤ 8) (hj : Φ (fltU (j : Int)) [])
    (hE : ∀ (W1 W' : World) (p : Nat) (A1 : Option Addr) (c1 : Nat), Blk W' p 65 #[.func (.func y.2.2.2.2) #[] #[]] → Below W1.heap.size W1 W' → (∀ W'' q, Below W1.heap.size W1 W'' → W1.heap.size ≤ q → Blk W'' q 90 #[.slice A1 n c1, .int .i64 0] → Calls Tryz.prog y.2.2.2.2 #[.pointer (some ⟨q, 0, none⟩)] W'' (PanP j W'' [q])) → Calls Tryz.prog 75 #[.slice A1 n c1, .pointer (some ⟨p, 0, none⟩)] W' (PanP j W' []))
    (hF : ∀ (B0 W0 W'' : World) (q : Nat) (A1 : Option Addr) (c1 : Nat), Below W.heap.size W B0 → Below B0.heap.size B0 W0 → Below W0.heap.size W0 W'' → W0.heap.size ≤ q → Blk W'' q 90 #[.slice A1 n c1, .int .i64 0] → Reads 9 csV W0 (.slice A1 n c1) avs → Calls Tryz.prog y.2.2.2.2 #[.pointer (some ⟨q, 0, none⟩)] W'' (PanP j W'' [q])) :
    Calls Tryz.prog 7 #[.string name, .slice A n c] W (VRes W Φ) :=
  look_gg W name y hf A n c Φ h1 h2 fun W' x p hW hx hp =>
    lift_g W' y.2.2.2.1 A n c x avs Φ hΦ (hA.below hW) hn1 (by omega) hk0 hTR hLT (fun i hi W2 hb => hCK i hi W2 (hW.trans (hb.mono hW.size)))
      (fun W1 A1 c1 hW1 hA1 => run1_p W' W1 x p j y.2.1 y.2.2.1 y.2.2.2.1 A1 n c1 Φ hj (he.below (below_tr hW hW1)) j1 j8 (hx.later hW1) fun W2 hW2 => hE W1 W2 p A1 c1 ((hp.later hW1).later hW2) hW2 fun W3 q h3 hq hb => hF W' W1 W3 q A1 c1 hW hW1 h3 hq hb hA1)
      (fun k num den text on code rr rc A2 n2 c2 us W2 hb hP hr => hVD k num den text on code rr rc A2 n2 c2 us W2 (he.below (hW.trans (hb.mono hW.size))) hP hr)
/-- valid leaves numbers as they are. -/
theorem vd_n (Φ : Vl → List Vl → Prop) (h : ∀ h us, Φ h us → us = [] ∧ ∃ m, m ≤ 1000 ∧ h = nV m) : ∀ (k : Int) (num den text : ByteArray) (on : Bool) (code rr rc : Int) (A2 : Option Addr) (n2 c2 : Nat) (us : List Vl) (W' : World), VEnv W' → Φ ⟨k, num, den, text, on, code, rr, rc, none, 0, 0⟩ us → Reads 9 csV W' (.slice A2 n2 c2) us → Calls Tryz.prog 23 #[.agg #[.int .i64 k, .string num, .string den, .string text, .bool on, .int .i64 code, .int .i64 rr, .int .i64 rc, .slice A2 n2 c2]] W' fun e w' => e = .returned (.agg #[.int .i64 k, .string num, .string den, .string text, .bool on, .int .i64 code, .int .i64 rr, .int .i64 rc, .slice A2 n2 c2]) ∧ Below W'.heap.size W' w' := by
  intro k num den text on code rr rc A2 n2 c2 us W' he hP hr
  obtain ⟨rfl, m, hm, hh⟩ := h _ _ hP
  obtain ⟨A', c', e, -⟩ := hr
  injection e with e1 e2 e3
  have e2 : n2 = 0 := e2
  subst e2
  unfold nV at hh
  injection hh with a1 a2 a3 a4 a5 a6 a7 a8
  subst a1 a2 a3 a4 a5 a6 a7 a8
  have g := gn_nV m hm
  exact valid_t ⟨1, nt m, ⟨#[49]⟩, ⟨#[]⟩, false, 0, 0, 0, A2, 0, c2⟩ W' he g.ok g.sz.s1 g.sz.s2 g.sz.s3
theorem hd_n (Φ : Vl → List Vl → Prop) (h : ∀ h us, Φ h us → us = [] ∧ ∃ m, m ≤ 1000 ∧ h = nV m) : ∀ h us, Φ h us → HdOk h us := fun x us hP => by
  obtain ⟨h1, m, -, rfl⟩ := h x us hP
  exact .inl ⟨rfl, h1⟩
theorem good_nV (zs : List Nat) (v : Nat → Nat) (m : Nat) (h : ∀ i, i < m → v zs[i]! ≤ 1000) (hm : zs.length = m) : GoodI (pkL zs v m) := fun u hu => by
  rw [pkL_all zs v m hm] at hu
  obtain ⟨z, hz, rfl⟩ := List.mem_map.1 hu
  obtain ⟨i, hi, e⟩ := List.getElem_of_mem hz
  have := h i (by omega)
  rw [getElem!_pos zs i hi, e] at this
  exact nV_good _ this
theorem good_nVs (R : Nat) (v : Nat → Nat) (h : ∀ i, i < R → v i ≤ 1000) : GoodI (nVs R v) := fun u hu => by
  obtain ⟨i, hi, rfl⟩ := List.mem_map.1 hu
  exact nV_good _ (h i (List.mem_range.1 hi))
theorem check_q (W : World) (s d : ByteArray) (he : VEnv W) (h : GN s d) : Calls Tryz.prog 71 #[(qV s d).v] W fun e w' => e = .returned (.int .i64 0) ∧ Below W.heap.size W w' := check_t' (qV s d) W he h.ok h.sz.s1 h.sz.s2 h.sz.s3
theorem let_m0 (W : World) : Calls Tryz.prog 73 #[.string ⟨#[115, 97, 115]⟩, .int .i64 0] W fun e w' => e = .returned (.int .u8 115) ∧ W = w' := by
  go_enter Tryz.func73, Tryz.ntmps73
  go_wp2_with fail
  go_ret
  exact ⟨rfl, rfl⟩
theorem let_m1 (W : World) : Calls Tryz.prog 73 #[.string ⟨#[115, 97, 115]⟩, .int .i64 1] W fun e w' => e = .returned (.int .u8 97) ∧ W = w' := by
  go_enter Tryz.func73, Tryz.ntmps73
  go_wp2_with fail
  go_ret
  exact ⟨rfl, rfl⟩
theorem let_m2 (W : World) : Calls Tryz.prog 73 #[.string ⟨#[115, 97, 115]⟩, .int .i64 2] W fun e w' => e = .returned (.int .u8 115) ∧ W = w' := by
  go_enter Tryz.func73, Tryz.ntmps73
  go_wp2_with fail
  go_ret
  exact ⟨rfl, rfl⟩
theorem let_x0 (W : World) : Calls Tryz.prog 73 #[.string ⟨#[115, 97, 97, 97, 115]⟩, .int .i64 0] W fun e w' => e = .returned (.int .u8 115) ∧ W = w' := by
  go_enter Tryz.func73, Tryz.ntmps73
  go_wp2_with fail
  go_ret
  exact ⟨rfl, rfl⟩
theorem let_x1 (W : World) : Calls Tryz.prog 73 #[.string ⟨#[115, 97, 97, 97, 115]⟩, .int .i64 1] W fun e w' => e = .returned (.int .u8 97) ∧ W = w' := by
  go_enter Tryz.func73, Tryz.ntmps73
  go_wp2_with fail
  go_ret
  exact ⟨rfl, rfl⟩
theorem let_x2 (W : World) : Calls Tryz.prog 73 #[.string ⟨#[115, 97, 97, 97, 115]⟩, .int .i64 2] W fun e w' => e = .returned (.int .u8 97) ∧ W = w' := by
  go_enter Tryz.func73, Tryz.ntmps73
  go_wp2_with fail
  go_ret
  exact ⟨rfl, rfl⟩
theorem hd_U (R : Nat) (v : Nat → Nat) (hR : R ≤ 100) : ∀ h us, PhU R v h us → HdOk h us := fun h us ⟨m, zs, h1, h2, h3, h4, h5, _⟩ => by
  subst h1 h2
  exact .inr ⟨(show (1 : Int) ≤ (m : Int) by omega), (show (m : Int) ≤ 1000 by omega), (by decide : (0 : Int) ≤ 1), (by decide : (1 : Int) ≤ 100), by rw [pkL_len zs v m (by omega)]; omega, by rw [pkL_len zs v m (by omega)]; omega⟩
theorem vd_U (R : Nat) (v : Nat → Nat) (hR : R ≤ 100) (hv : ∀ i, i < R → v i ≤ 1000) : ∀ (k : Int) (num den text : ByteArray) (on : Bool) (code rr rc : Int) (A2 : Option Addr) (n2 c2 : Nat) (us : List Vl) (W' : World), VEnv W' → PhU R v ⟨k, num, den, text, on, code, rr, rc, none, 0, 0⟩ us → Reads 9 csV W' (.slice A2 n2 c2) us → Calls Tryz.prog 23 #[.agg #[.int .i64 k, .string num, .string den, .string text, .bool on, .int .i64 code, .int .i64 rr, .int .i64 rc, .slice A2 n2 c2]] W' fun e w' => e = .returned (.agg #[.int .i64 k, .string num, .string den, .string text, .bool on, .int .i64 code, .int .i64 rr, .int .i64 rc, .slice A2 n2 c2]) ∧ Below W'.heap.size W' w' := by
  intro k num den text on code rr rc A2 n2 c2 us W' he ⟨m, zs, hh, h2, h3, h4, h5, h6, _⟩ hr
  injection hh with a1 a2 a3 a4 a5 a6 a7 a8
  subst a1 a2 a3 a4 a5 a6 a7 a8 h2
  have hl := pkL_len zs v m (by omega)
  have hn2 : n2 = m := by
    obtain ⟨A', c', e, -⟩ := hr
    injection e with e1 e2 e3
    omega
  exact valid_ar W' (arrU m 1 A2 n2 c2) m 1 (pkL zs v m) he ⟨⟨A2, n2, c2, rfl, by omega, hr⟩, h4, by omega, by decide, by decide, by omega⟩ (good_nV zs v m (fun i hi => hv _ (h6 i hi)) h3)
theorem sc_M (R : Nat) (v : Nat → Nat) (s d : ByteArray) (hR : R ≤ 100) : ∀ h us, PhM R v s d h us → us = [] ∧ ∃ m, m ≤ 1000 ∧ h = nV m := fun h us ⟨h1, i, h2, _, h3⟩ => ⟨h1, i + 1, by omega, h3⟩
theorem sc_I (v : Nat → Nat) (x : Nat) (hx : v x ≤ 1000) : ∀ h us, PhI v x h us → us = [] ∧ ∃ m, m ≤ 1000 ∧ h = nV m := fun h us ⟨h1, h3⟩ => ⟨h1, v x, hx, h3⟩
theorem sc_X (R : Nat) (v : Nat → Nat) (s d : ByteArray) (hv : ∀ i, i < R → v i ≤ 1000) : ∀ h us, PhX R v s d h us → us = [] ∧ ∃ m, m ≤ 1000 ∧ h = nV m := fun h us ⟨h1, i, h2, _, h3⟩ => ⟨h1, v i, hv i h2, h3⟩
/-- The error value #N/A. -/
def PhF (h : Vl) (us : List Vl) : Prop := us = [] ∧ h = fltU 6
theorem hd_F : ∀ h us, PhF h us → HdOk h us := fun h us ⟨h1, h2⟩ => by
  subst h2
  exact .inl ⟨rfl, h1⟩
theorem vd_F : ∀ (k : Int) (num den text : ByteArray) (on : Bool) (code rr rc : Int) (A2 : Option Addr) (n2 c2 : Nat) (us : List Vl) (W' : World), VEnv W' → PhF ⟨k, num, den, text, on, code, rr, rc, none, 0, 0⟩ us → Reads 9 csV W' (.slice A2 n2 c2) us → Calls Tryz.prog 23 #[.agg #[.int .i64 k, .string num, .string den, .string text, .bool on, .int .i64 code, .int .i64 rr, .int .i64 rc, .slice A2 n2 c2]] W' fun e w' => e = .returned (.agg #[.int .i64 k, .string num, .string den, .string text, .bool on, .int .i64 code, .int .i64 rr, .int .i64 rc, .slice A2 n2 c2]) ∧ Below W'.heap.size W' w' := by
  intro k num den text on code rr rc A2 n2 c2 us W' he ⟨hus, hh⟩ hr
  subst hus
  obtain ⟨A', c', e, -⟩ := hr
  injection e with e1 e2 e3
  have e2 : n2 = 0 := e2
  subst e2
  unfold fltU at hh
  injection hh with a1 a2 a3 a4 a5 a6 a7 a8
  subst a1 a2 a3 a4 a5 a6 a7 a8
  have g := fval_ok (j := 6) (by decide) (by decide)
  exact valid_t ⟨4, ⟨#[]⟩, ⟨#[]⟩, ⟨#[]⟩, false, 6, 0, 0, A2, 0, c2⟩ W' he g (by decide : (⟨#[]⟩ : ByteArray).size ≤ 9223372036854775807) (by decide : (⟨#[]⟩ : ByteArray).size ≤ 9223372036854775807) (by decide : (⟨#[]⟩ : ByteArray).size ≤ 9223372036854775807)
theorem look_U (W : World) (u : Vl) (A : Option Addr) (c R : Nat) (v : Nat → Nat)  (he : VEnv W) (hA : Reads 9 csV W (.slice A 1 c) [u]) (hu : AR W u R 1 (nVs R v)) (hv : ∀ i, i < R → v i ≤ 1000) (hR : R ≤ 100) :
    Calls Tryz.prog 7 #[.string ⟨#[85, 78, 73, 81, 85, 69]⟩, .slice A 1 c] W (VRes W (PhU R v)) :=
  look_n W ⟨#[85, 78, 73, 81, 85, 69]⟩ (⟨#[85, 78, 73, 81, 85, 69]⟩, 1, 3, ⟨#[97, 115, 115]⟩, 62) (by decide +kernel) A 1 c (PhU R v) [u] (hd_U R v hR) he hA (by decide) (by decide) (by decide) (by decide) (by decide +kernel) (fun W' => trim_sa ⟨#[97, 115, 115]⟩ (by decide +kernel) (by decide +kernel) W')
    (fun i hi => by
      obtain rfl : i = 0 := by omega
      · exact ⟨97, fun W' => let_s0 W', fun h => absurd h (by decide)⟩)
    (fun i hi W' hW => by
      obtain rfl : i = 0 := by omega
      · exact check_ar W' u _ _ _ (he.below hW) (hu.below hW) (good_nVs R v hv))
    (vd_U R v hR hv)
    (fun B0 W1 W' p A1 c1 h1 h2 h3 h4 => entG_U B0 W1 W' p A1 c1 1 _ h1 h2 h3 h4)
    (fun B0 W0 W'' q A1 c1 hB h0 hw hq hb hA' => fU_any B0 W0 W'' q A1 c1 u R v (he.below (below_tr hB h0)) hw hq hb hA' (hu.below (below_tr hB h0)) hv hR)
theorem look_Ma (W : World) (u : Vl) (A : Option Addr) (c R : Nat) (v : Nat → Nat) (s d : ByteArray) (hg : GN s d) (hex : ∃ i, i < R ∧ eqF v s d i = true) (he : VEnv W) (hA : Reads 9 csV W (.slice A 3 c) [qV s d, u, nV 0]) (hu : AR W u R 1 (nVs R v)) (hv : ∀ i, i < R → v i ≤ 1000) (hR : R ≤ 100) :
    Calls Tryz.prog 7 #[.string ⟨#[77, 65, 84, 67, 72]⟩, .slice A 3 c] W (VRes W (PhM R v s d)) :=
  look_n W ⟨#[77, 65, 84, 67, 72]⟩ (⟨#[77, 65, 84, 67, 72]⟩, 2, 3, ⟨#[115, 97, 115]⟩, 29) (by decide +kernel) A 3 c (PhM R v s d) [qV s d, u, nV 0] (hd_n _ (sc_M R v s d hR)) he hA (by decide) (by decide) (by decide) (by decide) (by decide +kernel) (fun W' => trim_sa ⟨#[115, 97, 115]⟩ (by decide +kernel) (by decide +kernel) W')
    (fun i hi => by
      obtain rfl | rfl | rfl : i = 0 ∨ i = 1 ∨ i = 2 := by omega
      · exact ⟨115, fun W' => let_m0 W', fun _ => (by decide : ¬ (1 : Int) = 5)⟩
      · exact ⟨97, fun W' => let_m1 W', fun h => absurd h (by decide)⟩
      · exact ⟨115, fun W' => let_m2 W', fun _ => (by decide : ¬ (1 : Int) = 5)⟩)
    (fun i hi W' hW => by
      obtain rfl | rfl | rfl : i = 0 ∨ i = 1 ∨ i = 2 := by omega
      · exact check_q W' s d (he.below hW) hg
      · exact check_ar W' u _ _ _ (he.below hW) (hu.below hW) (good_nVs R v hv)
      · exact check_nv W' 0 (he.below hW) (by decide))
    (vd_n _ (sc_M R v s d hR))
    (fun B0 W1 W' p A1 c1 h1 h2 h3 h4 => entG_Ma B0 W1 W' p A1 c1 3 _ h1 h2 h3 h4)
    (fun B0 W0 W'' q A1 c1 hB h0 hw hq hb hA' => fMa_any B0 W0 W'' q A1 c1 u R v s d (he.below (below_tr hB h0)) hw hq hb hA' (hu.below (below_tr hB h0)) hv hR hg hex)
theorem look_Xm (W : World) (u : Vl) (A : Option Addr) (c R : Nat) (v : Nat → Nat) (s d : ByteArray) (hg : GN s d) (hex : ∃ i, i < R ∧ eqF v s d i = true) (he : VEnv W) (hA : Reads 9 csV W (.slice A 2 c) [qV s d, u]) (hu : AR W u R 1 (nVs R v)) (hv : ∀ i, i < R → v i ≤ 1000) (hR : R ≤ 100) :
    Calls Tryz.prog 7 #[.string ⟨#[88, 77, 65, 84, 67, 72]⟩, .slice A 2 c] W (VRes W (PhM R v s d)) :=
  look_n W ⟨#[88, 77, 65, 84, 67, 72]⟩ (⟨#[88, 77, 65, 84, 67, 72]⟩, 2, 3, ⟨#[115, 97, 115]⟩, 30) (by decide +kernel) A 2 c (PhM R v s d) [qV s d, u] (hd_n _ (sc_M R v s d hR)) he hA (by decide) (by decide) (by decide) (by decide) (by decide +kernel) (fun W' => trim_sa ⟨#[115, 97, 115]⟩ (by decide +kernel) (by decide +kernel) W')
    (fun i hi => by
      obtain rfl | rfl : i = 0 ∨ i = 1 := by omega
      · exact ⟨115, fun W' => let_m0 W', fun _ => (by decide : ¬ (1 : Int) = 5)⟩
      · exact ⟨97, fun W' => let_m1 W', fun h => absurd h (by decide)⟩)
    (fun i hi W' hW => by
      obtain rfl | rfl : i = 0 ∨ i = 1 := by omega
      · exact check_q W' s d (he.below hW) hg
      · exact check_ar W' u _ _ _ (he.below hW) (hu.below hW) (good_nVs R v hv))
    (vd_n _ (sc_M R v s d hR))
    (fun B0 W1 W' p A1 c1 h1 h2 h3 h4 => entG_Xm B0 W1 W' p A1 c1 2 _ h1 h2 h3 h4)
    (fun B0 W0 W'' q A1 c1 hB h0 hw hq hb hA' => fXm_any B0 W0 W'' q A1 c1 u R v s d (he.below (below_tr hB h0)) hw hq hb hA' (hu.below (below_tr hB h0)) hv hR hg hex)
theorem look_Xo (W : World) (u : Vl) (A : Option Addr) (c R : Nat) (v : Nat → Nat) (s d : ByteArray) (hg : GN s d) (hno : ∀ i, i < R → eqF v s d i = false) (he : VEnv W) (hA : Reads 9 csV W (.slice A 2 c) [qV s d, u]) (hu : AR W u R 1 (nVs R v)) (hv : ∀ i, i < R → v i ≤ 1000) (hR : R ≤ 100) :
    Calls Tryz.prog 7 #[.string ⟨#[88, 77, 65, 84, 67, 72]⟩, .slice A 2 c] W (VRes W (PhF)) :=
  look_p W ⟨#[88, 77, 65, 84, 67, 72]⟩ (⟨#[88, 77, 65, 84, 67, 72]⟩, 2, 3, ⟨#[115, 97, 115]⟩, 30) (by decide +kernel) A 2 c (PhF) [qV s d, u] hd_F he hA (by decide) (by decide) (by decide) (by decide) (by decide +kernel) (fun W' => trim_sa ⟨#[115, 97, 115]⟩ (by decide +kernel) (by decide +kernel) W')
    (fun i hi => by
      obtain rfl | rfl : i = 0 ∨ i = 1 := by omega
      · exact ⟨115, fun W' => let_m0 W', fun _ => (by decide : ¬ (1 : Int) = 5)⟩
      · exact ⟨97, fun W' => let_m1 W', fun h => absurd h (by decide)⟩)
    (fun i hi W' hW => by
      obtain rfl | rfl : i = 0 ∨ i = 1 := by omega
      · exact check_q W' s d (he.below hW) hg
      · exact check_ar W' u _ _ _ (he.below hW) (hu.below hW) (good_nVs R v hv))
    vd_F 6 (by decide) (by decide) ⟨rfl, rfl⟩
    (fun W1 W' p A1 c1 h1 h3 h4 => entP_Xm W1 W' p A1 c1 2 6 h1 h3 h4)
    (fun B0 W0 W'' q A1 c1 hB h0 hw hq hb hA' => fXm_no B0 W0 W'' q A1 c1 u R v s d (he.below (below_tr hB h0)) hw hq hb hA' (hu.below (below_tr hB h0)) hv hR hg hno)
theorem look_Xl (W : World) (u : Vl) (A : Option Addr) (c R : Nat) (v : Nat → Nat) (s d : ByteArray) (hg : GN s d) (hex : ∃ i, i < R ∧ eqF v s d i = true) (he : VEnv W) (hA : Reads 9 csV W (.slice A 3 c) [qV s d, u, u]) (hu : AR W u R 1 (nVs R v)) (hv : ∀ i, i < R → v i ≤ 1000) (hR : R ≤ 100) :
    Calls Tryz.prog 7 #[.string ⟨#[88, 76, 79, 79, 75, 85, 80]⟩, .slice A 3 c] W (VRes W (PhX R v s d)) :=
  look_n W ⟨#[88, 76, 79, 79, 75, 85, 80]⟩ (⟨#[88, 76, 79, 79, 75, 85, 80]⟩, 3, 5, ⟨#[115, 97, 97, 97, 115]⟩, 35) (by decide +kernel) A 3 c (PhX R v s d) [qV s d, u, u] (hd_n _ (sc_X R v s d hv)) he hA (by decide) (by decide) (by decide) (by decide) (by decide +kernel) (fun W' => trim_sa ⟨#[115, 97, 97, 97, 115]⟩ (by decide +kernel) (by decide +kernel) W')
    (fun i hi => by
      obtain rfl | rfl | rfl : i = 0 ∨ i = 1 ∨ i = 2 := by omega
      · exact ⟨115, fun W' => let_x0 W', fun _ => (by decide : ¬ (1 : Int) = 5)⟩
      · exact ⟨97, fun W' => let_x1 W', fun h => absurd h (by decide)⟩
      · exact ⟨97, fun W' => let_x2 W', fun h => absurd h (by decide)⟩)
    (fun i hi W' hW => by
      obtain rfl | rfl | rfl : i = 0 ∨ i = 1 ∨ i = 2 := by omega
      · exact check_q W' s d (he.below hW) hg
      · exact check_ar W' u _ _ _ (he.below hW) (hu.below hW) (good_nVs R v hv)
      · exact check_ar W' u _ _ _ (he.below hW) (hu.below hW) (good_nVs R v hv))
    (vd_n _ (sc_X R v s d hv))
    (fun B0 W1 W' p A1 c1 h1 h2 h3 h4 => entG_Xl B0 W1 W' p A1 c1 3 _ h1 h2 h3 h4)
    (fun B0 W0 W'' q A1 c1 hB h0 hw hq hb hA' => fXl_any B0 W0 W'' q A1 c1 u R v s d (he.below (below_tr hB h0)) hw hq hb hA' (hu.below (below_tr hB h0)) hv hR hg hex)
theorem look_In (W : World) (u : Vl) (A : Option Addr) (c R : Nat) (v : Nat → Nat) (x : Nat) (hx : x < R) (he : VEnv W) (hA : Reads 9 csV W (.slice A 2 c) [u, nV (x + 1)]) (hu : AR W u R 1 (nVs R v)) (hv : ∀ i, i < R → v i ≤ 1000) (hR : R ≤ 100) :
    Calls Tryz.prog 7 #[.string ⟨#[73, 78, 68, 69, 88]⟩, .slice A 2 c] W (VRes W (PhI v x)) :=
  look_n W ⟨#[73, 78, 68, 69, 88]⟩ (⟨#[73, 78, 68, 69, 88]⟩, 2, 3, ⟨#[97, 115, 115]⟩, 36) (by decide +kernel) A 2 c (PhI v x) [u, nV (x + 1)] (hd_n _ (sc_I v x (hv x hx))) he hA (by decide) (by decide) (by decide) (by decide) (by decide +kernel) (fun W' => trim_sa ⟨#[97, 115, 115]⟩ (by decide +kernel) (by decide +kernel) W')
    (fun i hi => by
      obtain rfl | rfl : i = 0 ∨ i = 1 := by omega
      · exact ⟨97, fun W' => let_s0 W', fun h => absurd h (by decide)⟩
      · exact ⟨115, fun W' => let_s1 W', fun _ => (by decide : ¬ (1 : Int) = 5)⟩)
    (fun i hi W' hW => by
      obtain rfl | rfl : i = 0 ∨ i = 1 := by omega
      · exact check_ar W' u _ _ _ (he.below hW) (hu.below hW) (good_nVs R v hv)
      · exact check_nv W' (x + 1) (he.below hW) (by omega))
    (vd_n _ (sc_I v x (hv x hx)))
    (fun B0 W1 W' p A1 c1 h1 h2 h3 h4 => entG_In B0 W1 W' p A1 c1 2 _ h1 h2 h3 h4)
    (fun B0 W0 W'' q A1 c1 hB h0 hw hq hb hA' => fIn_any B0 W0 W'' q A1 c1 u R x v (he.below (below_tr hB h0)) hw hq hb hA' (hu.below (below_tr hB h0)) hR hx)
end Go.Proofs.YtllhefjblipddaaGreatDoor

namespace Go.Proofs.YtllhefjblipddaaGreatDoor
open Go.RowKit

theorem eqF_nn {v : Nat → Nat} {y i : Nat} (hv : v i ≤ 1000) (hy : y ≤ 1000) : eqF v (nt y) ⟨#[49]⟩ i = true ↔ v i = y := by
  unfold eqF
  rw [beq_iff_eq]
  exact kCmp_nn hv hy
theorem pk_nvs (zs : List Nat) (v : Nat → Nat) (m : Nat) (h : zs.length = m) : pkL zs v m = nVs m fun j => v zs[j]! := by
  rw [pkL_all zs v m h]
  apply List.ext_getElem
  · rw [nVs_len, List.length_map, h]
  · intro i h1 h2
    have hi : i < zs.length := by simpa using h1
    simp only [nVs, List.getElem_map, List.getElem_range]
    rw [getElem!_pos zs i hi]
/-- A number is answered. -/
theorem vres_n {W : World} {Φ : Vl → List Vl → Prop} {P : Nat → Prop} (h : ∀ h us, Φ h us → us = [] ∧ ∃ m, P m ∧ h = nV m) {e : Ending} {w' : World} (hr : VRes W Φ e w') : ∃ m, P m ∧ e = .returned (.agg #[.int .i64 1, .string (nt m), .string ⟨#[49]⟩, .string ⟨#[]⟩, .bool false, .int .i64 0, .int .i64 0, .int .i64 0, .slice none 0 0]) ∧ Below W.heap.size W w' := by
  obtain ⟨k, num, den, text, on, code, rr, rc, A2, n2, c2, us, rfl, hP, hrd, hz, -, hb⟩ := hr
  obtain ⟨rfl, m, hm, hh⟩ := h _ _ hP
  obtain ⟨A', c', e, -⟩ := hrd
  injection e with e1 e2 e3
  have e2 : n2 = 0 := e2
  obtain ⟨z1, z2⟩ := hz e2
  subst e2 z1 z2
  unfold nV at hh
  injection hh with a1 a2 a3 a4 a5 a6 a7 a8
  subst a1 a2 a3 a4 a5 a6 a7 a8
  exact ⟨m, hm, rfl, hb⟩
theorem vres_f {W : World} {e : Ending} {w' : World} (hr : VRes W PhF e w') : e = .returned (.agg #[.int .i64 4, .string ⟨#[]⟩, .string ⟨#[]⟩, .string ⟨#[]⟩, .bool false, .int .i64 6, .int .i64 0, .int .i64 0, .slice none 0 0]) ∧ Below W.heap.size W w' := by
  obtain ⟨k, num, den, text, on, code, rr, rc, A2, n2, c2, us, rfl, ⟨hus, hh⟩, hrd, hz, -, hb⟩ := hr
  subst hus
  obtain ⟨A', c', e, -⟩ := hrd
  injection e with e1 e2 e3
  have e2 : n2 = 0 := e2
  obtain ⟨z1, z2⟩ := hz e2
  subst e2 z1 z2
  unfold fltU at hh
  injection hh with a1 a2 a3 a4 a5 a6 a7 a8
  subst a1 a2 a3 a4 a5 a6 a7 a8
  exact ⟨rfl, hb⟩
/-- UNIQUE: an array of numbers of the column, all of them. -/
theorem lq_U (W : World) (u : Vl) (A : Option Addr) (c R : Nat) (v : Nat → Nat) (he : VEnv W) (hA : Reads 9 csV W (.slice A 1 c) [u]) (hu : AR W u R 1 (nVs R v)) (hv : ∀ i, i < R → v i ≤ 1000) (hR : R ≤ 100) :
    Calls Tryz.prog 7 #[.string ⟨#[85, 78, 73, 81, 85, 69]⟩, .slice A 1 c] W fun e w' => ∃ (m : Nat) (vz : Nat → Nat) (A2 : Option Addr) (c2 : Nat), e = .returned (.agg #[.int .i64 5, .string ⟨#[]⟩, .string ⟨#[]⟩, .string ⟨#[]⟩, .bool false, .int .i64 0, .int .i64 (m : Int), .int .i64 1, .slice A2 m c2]) ∧ AR w' (arrU m 1 A2 m c2) m 1 (nVs m vz) ∧ m ≤ 100 ∧ (∀ j, j < m → vz j ≤ 1000) ∧ (∀ i, i < R → ∃ j, j < m ∧ vz j = v i) ∧ Below W.heap.size W w' := by
  refine (look_U W u A c R v he hA hu hv hR).mono ?_
  intro e w' hr
  obtain ⟨k, num, den, text, on, code, rr, rc, A2, n2, c2, us, rfl, ⟨m, zs, hh, rfl, h3, h4, h5, h6, h7⟩, hrd, -, -, hb⟩ := hr
  injection hh with a1 a2 a3 a4 a5 a6 a7 a8
  subst a1 a2 a3 a4 a5 a6 a7 a8
  have hl := pkL_len zs v m (by omega)
  have hn2 : n2 = m := by
    obtain ⟨A', c', e, -⟩ := hrd
    injection e with e1 e2 e3
    omega
  subst hn2
  rw [pk_nvs zs v n2 h3] at hrd
  exact ⟨n2, fun j => v zs[j]!, A2, c2, rfl, ⟨⟨A2, n2, c2, rfl, by omega, hrd⟩, h4, by omega, by decide, by decide, by omega⟩, by omega, fun j hj => hv _ (h6 j hj), h7, hb⟩
section
variable (W : World) (u : Vl) (A : Option Addr) (c R : Nat) (v : Nat → Nat)
theorem lq_Ma (y : Nat) (hy : y ≤ 1000) (hex : ∃ i, i < R ∧ v i = y) (he : VEnv W) (hA : Reads 9 csV W (.slice A 3 c) [nV y, u, nV 0]) (hu : AR W u R 1 (nVs R v)) (hv : ∀ i, i < R → v i ≤ 1000) (hR : R ≤ 100) :
    Calls Tryz.prog 7 #[.string ⟨#[77, 65, 84, 67, 72]⟩, .slice A 3 c] W fun e w' => ∃ x : Nat, (x < R ∧ v x = y) ∧ e = .returned (.agg #[.int .i64 1, .string (nt (x + 1)), .string ⟨#[49]⟩, .string ⟨#[]⟩, .bool false, .int .i64 0, .int .i64 0, .int .i64 0, .slice none 0 0]) ∧ Below W.heap.size W w' := by
  obtain ⟨i, hi, hiy⟩ := hex
  refine (look_Ma W u A c R v (nt y) ⟨#[49]⟩ (gn_nV y hy) ⟨i, hi, (eqF_nn (hv i hi) hy).2 hiy⟩ he hA hu hv hR).mono ?_
  intro e w' hr
  obtain ⟨m, ⟨x, rfl, hx⟩, h1, h2⟩ := vres_n (P := fun m => ∃ x, m = x + 1 ∧ x < R ∧ v x = y) (fun h us ⟨h1, i, h2, h3, h4⟩ => ⟨h1, i + 1, ⟨i, rfl, h2, (eqF_nn (hv i h2) hy).1 h3⟩, h4⟩) hr
  exact ⟨x, hx, h1, h2⟩
theorem lq_Xm (y : Nat) (hy : y ≤ 1000) (hex : ∃ i, i < R ∧ v i = y) (he : VEnv W) (hA : Reads 9 csV W (.slice A 2 c) [nV y, u]) (hu : AR W u R 1 (nVs R v)) (hv : ∀ i, i < R → v i ≤ 1000) (hR : R ≤ 100) :
    Calls Tryz.prog 7 #[.string ⟨#[88, 77, 65, 84, 67, 72]⟩, .slice A 2 c] W fun e w' => ∃ x : Nat, (x < R ∧ v x = y) ∧ e = .returned (.agg #[.int .i64 1, .string (nt (x + 1)), .string ⟨#[49]⟩, .string ⟨#[]⟩, .bool false, .int .i64 0, .int .i64 0, .int .i64 0, .slice none 0 0]) ∧ Below W.heap.size W w' := by
  obtain ⟨i, hi, hiy⟩ := hex
  refine (look_Xm W u A c R v (nt y) ⟨#[49]⟩ (gn_nV y hy) ⟨i, hi, (eqF_nn (hv i hi) hy).2 hiy⟩ he hA hu hv hR).mono ?_
  intro e w' hr
  obtain ⟨m, ⟨x, rfl, hx⟩, h1, h2⟩ := vres_n (P := fun m => ∃ x, m = x + 1 ∧ x < R ∧ v x = y) (fun h us ⟨h1, i, h2, h3, h4⟩ => ⟨h1, i + 1, ⟨i, rfl, h2, (eqF_nn (hv i h2) hy).1 h3⟩, h4⟩) hr
  exact ⟨x, hx, h1, h2⟩
theorem lq_Xl (y : Nat) (hy : y ≤ 1000) (hex : ∃ i, i < R ∧ v i = y) (he : VEnv W) (hA : Reads 9 csV W (.slice A 3 c) [nV y, u, u]) (hu : AR W u R 1 (nVs R v)) (hv : ∀ i, i < R → v i ≤ 1000) (hR : R ≤ 100) :
    Calls Tryz.prog 7 #[.string ⟨#[88, 76, 79, 79, 75, 85, 80]⟩, .slice A 3 c] W fun e w' => e = .returned (.agg #[.int .i64 1, .string (nt y), .string ⟨#[49]⟩, .string ⟨#[]⟩, .bool false, .int .i64 0, .int .i64 0, .int .i64 0, .slice none 0 0]) ∧ Below W.heap.size W w' := by
  obtain ⟨i, hi, hiy⟩ := hex
  refine (look_Xl W u A c R v (nt y) ⟨#[49]⟩ (gn_nV y hy) ⟨i, hi, (eqF_nn (hv i hi) hy).2 hiy⟩ he hA hu hv hR).mono ?_
  intro e w' hr
  obtain ⟨m, rfl, h1, h2⟩ := vres_n (P := fun m => m = y) (fun h us ⟨h1, i, h2, h3, h4⟩ => ⟨h1, v i, (eqF_nn (hv i h2) hy).1 h3, h4⟩) hr
  exact ⟨h1, h2⟩
theorem lq_In (x y : Nat) (hx : x < R) (hxy : v x = y) (he : VEnv W) (hA : Reads 9 csV W (.slice A 2 c) [u, nV (x + 1)]) (hu : AR W u R 1 (nVs R v)) (hv : ∀ i, i < R → v i ≤ 1000) (hR : R ≤ 100) :
    Calls Tryz.prog 7 #[.string ⟨#[73, 78, 68, 69, 88]⟩, .slice A 2 c] W fun e w' => e = .returned (.agg #[.int .i64 1, .string (nt y), .string ⟨#[49]⟩, .string ⟨#[]⟩, .bool false, .int .i64 0, .int .i64 0, .int .i64 0, .slice none 0 0]) ∧ Below W.heap.size W w' := by
  refine (look_In W u A c R v x hx he hA hu hv hR).mono ?_
  intro e w' hr
  obtain ⟨m, rfl, h1, h2⟩ := vres_n (P := fun m => m = y) (fun h us ⟨h1, h4⟩ => ⟨h1, v x, hxy, h4⟩) hr
  exact ⟨h1, h2⟩
theorem lq_Xz (s d : ByteArray) (hg : GN s d) (he : VEnv W) (hA : Reads 9 csV W (.slice A 2 c) [qV s d, u]) (hu : AR W u R 1 (nVs R v)) (hv : ∀ i, i < R → v i ≤ 1000) (hR : R ≤ 100) :
    Calls Tryz.prog 7 #[.string ⟨#[88, 77, 65, 84, 67, 72]⟩, .slice A 2 c] W (fun e w' => ∃ m, e = .returned (.agg #[.int .i64 1, .string (nt m), .string ⟨#[49]⟩, .string ⟨#[]⟩, .bool false, .int .i64 0, .int .i64 0, .int .i64 0, .slice none 0 0]) ∧ Below W.heap.size W w') ∨ Calls Tryz.prog 7 #[.string ⟨#[88, 77, 65, 84, 67, 72]⟩, .slice A 2 c] W (fun e w' => e = .returned (.agg #[.int .i64 4, .string ⟨#[]⟩, .string ⟨#[]⟩, .string ⟨#[]⟩, .bool false, .int .i64 6, .int .i64 0, .int .i64 0, .slice none 0 0]) ∧ Below W.heap.size W w') := by
  by_cases hex : ∃ i, i < R ∧ eqF v s d i = true
  · left
    refine (look_Xm W u A c R v s d hg hex he hA hu hv hR).mono ?_
    intro e w' hr
    obtain ⟨m, -, h1, h2⟩ := vres_n (P := fun _ => True) (fun h us ⟨h1, i, _, _, h4⟩ => ⟨h1, i + 1, trivial, h4⟩) hr
    exact ⟨m, h1, h2⟩
  · right
    refine (look_Xo W u A c R v s d hg (fun i hi => by
      cases hc : eqF v s d i with
      | false => rfl
      | true => exact absurd ⟨i, hi, hc⟩ hex) he hA hu hv hR).mono ?_
    intro e w' hr
    exact vres_f hr
end
end Go.Proofs.YtllhefjblipddaaGreatDoor
