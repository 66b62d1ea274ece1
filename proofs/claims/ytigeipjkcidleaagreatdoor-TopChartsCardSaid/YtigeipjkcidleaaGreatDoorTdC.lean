/- chart.Sectors. -/
import Derived.Test.YtigeipjkcidleaaGreatDoorTdB
namespace Go.Proofs.YtigeipjkcidleaaGreatDoor
open Go.RowKit

def secC (b : Int × Int × Int) : List Value := [.int .i64 b.1, .int .i64 b.2.1, .int .i64 b.2.2]
theorem sec_len (x : Int × Int × Int) : (secC x).length = 3 ∧ ∀ u ∈ secC x, u.oneCell' = true := ⟨rfl, by simp [secC, Value.oneCell']⟩
theorem sec_info : (Tryz.prog.info? 77).map (fun i => (i.zero, i.size, i.bytes)) = some (some (.agg #[.int .i64 0, .int .i64 0, .int .i64 0]), 3, 24) := by kernel_rfl
abbrev SecOwn (w : World) (base : Nat) (v : Value) (l : List (Int × Int × Int)) : Prop := RowOf 77 3 secC w base v l
/-- Where a sector ends. -/
def secT (all s : Int) : Int := if 0 < all then (2 * s * 3600 + all) / (2 * all) else 0
theorem secT_all (all : Int) : secT all all = if 0 < all then 3600 else 0 := by
  unfold secT
  split
  · exact Tc.sec_full ‹_›
  · rfl
def SecRet (l : List Int) (w : World) (e : Ending) (w' : World) : Prop := ∃ (v : Value) (o : List (Int × Int × Int)), e = .returned (.tuple #[v, .int .i64 0]) ∧ o.length = l.length ∧ (∀ h : l.length - 1 < o.length, (o[l.length - 1]).2.2 = secT (Tc.sm l) (Tc.sm l)) ∧ SecOwn w' w.heap.size v o ∧ Below w.heap.size w w'
set_option maxRecDepth 100000 in
set_option maxHeartbeats 8000000 in
theorem sectors_any (NA : Option Addr) (nn nc : Nat) (SA : Option Addr) (sn sc : Nat) (l : List Int) (M : Int) (w : World) (h : ChOk 3 nn [l] M) (hs : Rows2 w (.slice SA sn sc) [l]) :
    Calls Tryz.prog 19 #[.agg #[.int .i64 3, .slice NA nn nc, .slice SA sn sc]] w (SecRet l w) := by
  have hn := hs.get.1
  simp only [List.length_cons, List.length_nil] at hn
  obtain rfl := hn
  have HL0 := Lib.hid ((Loc.start w).alloc' rfl 51 #[.int .i64 3, .slice NA nn nc, .slice SA (0 + 1) sc])
  have HCK := Lib.hid fun W hW => ccheck_any 3 NA nn nc SA (0 + 1) sc [l] M W h (hs.below hW)
  have hln := h.ln l (by simp)
  have n1 := h.n1
  have n2 := h.n2
  have HG := Lib.hid (fun n (hn : n ∈ l) => (⟨(h.rg l (by simp) n hn).1, by have := (h.rg l (by simp) n hn).2; have := h.m; omega⟩ : 0 ≤ n ∧ n ≤ 83333333333))
  obtain ⟨b, o, rfl, hbl, hrow⟩ := hs.get.2 (by decide)
  obtain ⟨B, m, k, c0, hr⟩ := hrow 0 (by simp)
  obtain ⟨e1, hr⟩ := hr.one
  simp only [List.getElem_cons_zero] at e1 hr
  obtain ⟨b2, o2, rfl, hb2, hc⟩ := hr (by omega)
  obtain rfl : m = nn := by omega
  have HX := Lib.hid (show ∀ W, Below w.heap.size w W → W.cell? ⟨b, o, none⟩ = some (.slice (some ⟨b2, o2, none⟩) m k) from fun W hb => (hb.cell (p := ⟨b, o, none⟩) hbl).trans c0)
  have HY := Lib.hid (show ∀ W, Below w.heap.size w W → ∀ i (hi : i < l.length), W.cell? ⟨b2, o2 + i, none⟩ = some (.int .i64 l[i]) from fun W hb i hi => (hb.cell (p := ⟨b2, o2 + i, none⟩) hb2).trans (hc i hi))
  have HLN := Lib.hid hln
  have HNN := Lib.hid (show ∀ x ∈ l, 0 ≤ x from fun x hx => (HG.out x hx).1)
  have HUP := Lib.hid (show ∀ k, k ≤ l.length → Tc.sm (l.take k) ≤ k * 83333333333 from fun k => by
    induction k with
    | zero => intro _; simp [Tc.sm]
    | succ k ih =>
      intro hk
      rw [Tc.sm_take_succ l k hk]
      have := ih (by omega)
      have := (HG.out _ (List.getElem_mem hk)).2
      push_cast
      omega)
  clear h hs hrow c0 hr hc e1 hln hbl hb2
  obtain ⟨x0, x1, x2, -, -, -⟩ := (HL0.out.blk (List.mem_cons_self ..)).three
  obtain ⟨S, hS⟩ : ∃ S, S = Tc.sm l := ⟨_, rfl⟩
  have HS := Lib.hid hS
  go_enter Tryz.func19, Tryz.ntmps19
  go_upto_region 7 with (go_at_call 41; (with_reducible refine (HCK.out _ HL0.out.bel).mono ?_); rintro e w1 ⟨rfl, hb⟩; have HL1 := Lib.hid (HL0.out.step hb); clear hb x0 x1 x2; obtain ⟨x0, x1, x2, -, -, -⟩ := (HL1.out.blk (List.mem_cons_self ..)).three)
  have y0 := HX.out _ HL1.out.bel
  go_wp2_with fail
  go_loopw [5, 27] (fun u5 u wr => ∃ k : Nat, k ≤ m ∧ u = .int .i64 k ∧ u5 = .int .i64 (Tc.sm (l.take k)) ∧ Hid (Loc w [(w.heap.size, 51, #[.int .i64 3, .slice NA m nc, .slice (some ⟨b, o, none⟩) (0 + 1) sc])] wr)) (fun _ u _ => m - (intOf u).toNat)
  case atStart => exact ⟨0, Nat.zero_le _, rfl, rfl, HL1⟩
  case round =>
    clear x0 x1 x2 y0 HL0 HL1
    obtain ⟨j, hj, rfl, rfl, HL⟩ := hrel
    obtain ⟨x0, x1, x2, -, -, -⟩ := (HL.out.blk (List.mem_cons_self ..)).three
    by_cases hlt : j < m
    · have hjl : j < l.length := by have := HLN.out; omega
      have d1 := HY.out _ HL.out.bel j hjl
      have hst := Tc.sm_take_succ l j hjl
      obtain ⟨r0, -⟩ := Tc.sm_take_le HNN.out j
      have r1 := HUP.out j (by omega)
      obtain ⟨g0, g1⟩ := HG.out _ (List.getElem_mem hjl)
      obtain ⟨y, hy⟩ : ∃ y, y = l[j] := ⟨_, rfl⟩
      rw [← hy] at d1 hst g0 g1
      have HST := Lib.hid hst
      clear hy hst
      generalize Tc.sm (l.take j) = s at r0 r1 HST
      go_wp2_with fail
      go_roundw
      case rel => exact ⟨j + 1, by omega, by go_num, by rw [HST.out], HL⟩
      case measure => simp [intOf]; omega
    · have hs0 : Tc.sm (l.take j) = S := by rw [hS, List.take_of_length_le (by have := HLN.out; omega)]
      have y0 := HX.out _ HL.out.bel
      have b0 : 0 ≤ S := by rw [hS]; exact Tc.sm_nonneg HNN.out
      have b1 : S ≤ 200 * 83333333333 := by
        have := HUP.out l.length (Nat.le_refl _)
        rw [List.take_length, ← hS] at this
        have := HLN.out
        omega
      rw [hs0]
      clear hs0 hS
      go_wp2_with fail
      have HB := Lib.hid HL.out.bel
      have HD := Lib.hid (HL.out.blk (List.mem_cons_self ..))
      have hsz : w.heap.size + 1 ≤ wr.heap.size := HD.out.lt
      have HO0 := Lib.hid (RowOf.nil (E := 77) (size := 3) (f := secC) wr (w.heap.size + 1))
      clear x0 x1 x2 y0 HL
      have HSZ := Lib.hid hsz
      clear hsz
      go_loopw [8, 9, 10, 40] (fun u8 u9 u10 u wr => ∃ (k : Nat) (v : Value) (os : List (Int × Int × Int)) (f : Int), k ≤ m ∧ u = .int .i64 k ∧ u9 = .int .i64 (Tc.sm (l.take k)) ∧ u10 = .int .i64 f ∧ u8 = v ∧ os.length = k ∧ Hid (∀ h : k - 1 < os.length, (os[k - 1]).2.2 = secT S (Tc.sm (l.take k))) ∧ Hid (SecOwn wr (w.heap.size + 1) v os) ∧ Hid (Below w.heap.size w wr) ∧ Hid (w.heap.size + 1 ≤ wr.heap.size)) (fun _ _ _ u _ => m - (intOf u).toNat)
      case atStart => exact ⟨0, _, [], 0, Nat.zero_le _, rfl, rfl, rfl, rfl, rfl, Lib.hid (fun h => by simp at h), HO0, HB, HSZ⟩
      case round =>
        clear HB HD HO0 HSZ
        obtain ⟨j, v, os, f, hj, rfl, rfl, rfl, rfl, hol, HLT, HO, HB, HSZ⟩ := hrel
        by_cases hlt : j < m
        · have hjl : j < l.length := by have := HLN.out; omega
          have d1 := HY.out _ HB.out j hjl
          have hst := Tc.sm_take_succ l j hjl
          obtain ⟨r0, -⟩ := Tc.sm_take_le HNN.out j
          have r1 := HUP.out j (by omega)
          obtain ⟨g0, g1⟩ := HG.out _ (List.getElem_mem hjl)
          obtain ⟨y, hy⟩ : ∃ y, y = l[j] := ⟨_, rfl⟩
          rw [← hy] at d1 hst g0 g1
          have HST := Lib.hid hst
          have HOL := Lib.hid hol
          clear hy hst hol
          generalize Tc.sm (l.take j) = s at r0 r1 HST
          have hos : os.length ≤ 200 := by have := HOL.out; omega
          by_cases hS0 : 0 < S
          · have HT := Lib.hid (show secT S (s + y) = (2 * (s + y) * 3600 + S) / (2 * S) from if_pos hS0)
            have p1 : 0 ≤ 2 * (s + y) * 3600 + S := by omega
            have p2 : 2 * (s + y) * 3600 + S ≤ 1000000000000000000 := by omega
            go_wp2_with (at_builtin; go_loud (refine wp_row1 72 77 3 24 secC _ Tryz.underlying72 sec_info rfl (by decide) sec_len rfl _ _ rfl (w.heap.size + 1) _ os rfl HO.out ((j : Int), f, (2 * (s + y) * 3600 + S) / (2 * S)) _ ?_ rfl (by omega) (by unfold maxLen; omega) HSZ.out ?_); (rfl); intro v3 w3 ho hb hg; have HO2 := Lib.hid ho; have HB2 := Lib.hid (HB.out.trans (hb.mono (Nat.le_succ _))); have HSZ2 := Lib.hid (Nat.le_trans HSZ.out hb.size); clear ho hb hg)
            go_roundw
            case rel => exact ⟨j + 1, _, os ++ [((j : Int), f, (2 * (s + y) * 3600 + S) / (2 * S))], (2 * (s + y) * 3600 + S) / (2 * S), by omega, by go_num, by rw [HST.out], rfl, rfl, by simp [HOL.out], Lib.hid (fun h => by
              rw [List.getElem_append_right (by have := HOL.out; omega)]
              simp only [HOL.out, Nat.add_sub_cancel, Nat.sub_self, List.getElem_singleton]
              rw [HST.out, HT.out]), HO2, HB2, HSZ2⟩
            case measure => simp [intOf]; omega
          · have HT := Lib.hid (show secT S (s + y) = 0 from if_neg hS0)
            go_wp2_with (at_builtin; go_loud (refine wp_row1 72 77 3 24 secC _ Tryz.underlying72 sec_info rfl (by decide) sec_len rfl _ _ rfl (w.heap.size + 1) _ os rfl HO.out ((j : Int), f, 0) _ ?_ rfl (by omega) (by unfold maxLen; omega) HSZ.out ?_); (rfl); intro v3 w3 ho hb hg; have HO2 := Lib.hid ho; have HB2 := Lib.hid (HB.out.trans (hb.mono (Nat.le_succ _))); have HSZ2 := Lib.hid (Nat.le_trans HSZ.out hb.size); clear ho hb hg)
            go_roundw
            case rel => exact ⟨j + 1, _, os ++ [((j : Int), f, 0)], 0, by omega, by go_num, by rw [HST.out], rfl, rfl, by simp [HOL.out], Lib.hid (fun h => by
              rw [List.getElem_append_right (by have := HOL.out; omega)]
              simp only [HOL.out, Nat.add_sub_cancel, Nat.sub_self, List.getElem_singleton]
              rw [HST.out, HT.out]), HO2, HB2, HSZ2⟩
            case measure => simp [intOf]; omega
        · have HFIN := Lib.hid (show (∀ h : l.length - 1 < os.length, (os[l.length - 1]).2.2 = secT (Tc.sm l) (Tc.sm l)) ∧ os.length = l.length from by
            have e1 : j = l.length := by have := HLN.out; omega
            have h9 := HLT.out
            rw [← HS.out]
            subst e1
            rw [List.take_length, ← HS.out] at h9
            exact ⟨h9, hol⟩)
          obtain ⟨A7, n7, c7, rfl⟩ : ∃ A n c, u8 = .slice A n c := by
            rcases HO.out.2 with ⟨rfl, -⟩ | ⟨g', cap, cur, rfl, -⟩
            · exact ⟨none, 0, 0, rfl⟩
            · exact ⟨_, _, _, rfl⟩
          go_wp2_with fail
          go_ret2
          exact ⟨_, os, rfl, HFIN.out.2, HFIN.out.1, RowOf.mono HO.out (Nat.le_succ _), HB.out⟩
end Go.Proofs.YtigeipjkcidleaaGreatDoor

namespace Go.Proofs.YtigeipjkcidleaaGreatDoor
open Go.RowKit
namespace Tc
def sN : List Nat → Nat
  | [] => 0
  | x :: t => x + sN t
theorem sN_set : ∀ (l : List Nat) (k : Nat) (h : k < l.length) (x : Nat), sN (l.set k x) + l[k] = sN l + x
  | y :: t, 0, _, x => by simp only [List.set_cons_zero, sN, List.getElem_cons_zero]; omega
  | y :: t, k + 1, h, x => by
    have := sN_set t k (by simpa using h) x
    simp only [List.set_cons_succ, sN, List.getElem_cons_succ]
    omega
theorem sN_rep (n : Nat) : sN (List.replicate n 0) = 0 := by
  induction n with
  | zero => rfl
  | succ n ih => rw [List.replicate_succ, sN, ih]
theorem sN_app (a b : List Nat) : sN (a ++ b) = sN a + sN b := by
  induction a with
  | nil => simp [sN]
  | cons x t ih => simp only [List.cons_append, sN, ih]; omega
theorem sN_map (f : Int → Int) (l : List Int) (h : ∀ x ∈ l, 0 ≤ f x) : ((sN (l.map fun x => (f x).toNat) : Nat) : Int) = sm (l.map f) := by
  induction l with
  | nil => rfl
  | cons x t ih =>
    have h1 := ih fun y hy => h y (by simp [hy])
    have h2 := h x (by simp)
    simp only [List.map_cons, sN, sm]
    push_cast
    rw [h1]
    omega
end Tc
/-- The value owns a row of truth values. -/
abbrev RB (w : World) (base : Nat) (v : Value) (l : List Bool) : Prop := RowOf 4 1 (fun b => [Value.bool b]) w base v l
theorem bool_info : (Tryz.prog.info? 4).map (fun i => (i.zero, i.size, i.bytes)) = some (some (.bool false), 1, 1) := by kernel_rfl
theorem bflat (l : List Bool) : l.flatMap (fun b => [Value.bool b]) = l.map Value.bool := by
  induction l with
  | nil => rfl
  | cons x t ih => rw [List.flatMap_cons, List.map_cons, ih]; rfl
section
variable {w w' : World} {base g c n : Nat} {l : List Bool}
theorem RB.cell (h : RB w base (.slice (some ⟨g, 0, none⟩) n c) l) (hn : l.length = n) {i : Nat} (hi : i < l.length) : w.cell? ⟨g, i, none⟩ = some (.bool l[i]) := by
  subst hn
  have := World.ownsRow.cellAt (show w.ownsRow base 4 1 (.slice (some ⟨g, 0, none⟩) l.length c) l.length (l.flatMap fun b => [Value.bool b]) from h) i (by omega)
  rw [this, bflat]
  simp [hi]
theorem RB.frozen (h : RB w base (.slice (some ⟨g, 0, none⟩) n c) l) (hn : l.length = n) (i : Nat) : w.frozen? ⟨g, i, none⟩ = false := by
  subst hn
  exact World.ownsRow.frozenAt (show w.ownsRow base 4 1 (.slice (some ⟨g, 0, none⟩) l.length c) l.length (l.flatMap fun b => [Value.bool b]) from h) i
theorem RB.set (h : RB w base (.slice (some ⟨g, 0, none⟩) n c) l) (hn : l.length = n) (i : Nat) (b : Bool) : RB (w.setCell ⟨g, i, none⟩ (.bool b)) base (.slice (some ⟨g, 0, none⟩) n c) (l.set i b) := by
  subst hn
  have := (World.ownsRow.stored (show w.ownsRow base 4 1 (.slice (some ⟨g, 0, none⟩) l.length c) l.length (l.flatMap fun b => [Value.bool b]) from h) i (.bool b)).1
  unfold RB RowOf
  rw [List.length_set, bflat, List.map_set, ← bflat]
  exact this
end
section
variable {ops : Array Oper} {rest : List Oper} {o : Oper} {a : Act} {Q : Exit → Act → World → Prop}
/-- make of a row of falses. -/
theorem wp_makeB {w : World} (hgd : o.guard = none) (x y : Operand) (ho : o.op = Op.makeSlice 124 x y) (base : Nat) (C D : Int) (n : Nat) (hx : a.eval x = .int .i64 C) (hy : a.eval y = .int .i64 D) (hC : C = (n : Int)) (hD : D = (n : Int))
    (hn : n ≤ 1099511627776) (hbase : base ≤ w.heap.size)
    (h : ∀ w', RB w' base (.slice (some ⟨w.heap.size, 0, none⟩) n n) (List.replicate n false) → Below w.heap.size w w' → w.heap.size < w'.heap.size → wpList Tryz.prog ops Q rest (a.put o.dst (.slice (some ⟨w.heap.size, 0, none⟩) n n)) w') :
    wpList Tryz.prog ops Q (o :: rest) a w := by
  obtain ⟨i0, hi, hz0, hz1, hz2⟩ := info_parts bool_info
  refine wpList_make_full w hgd x y 124 ho base 4 i0 (.bool false) 1 Tryz.underlying124 hi hz0 hz1 .i64 .i64 C D n hx hy hC hD (by rw [hz2]; omega) (by unfold maxLen; omega) hbase ?_
  intro w' h1 h2
  refine h w' ?_ ⟨h2.os, h2.tape, h2.output, h2.size, fun k hk => h2.block k hk (by simp)⟩ ((World.ownsRow.lt h1 w.heap.size rfl).2)
  unfold RB RowOf
  rw [bflat, List.map_replicate, List.length_replicate]
  have e : (madeCells (Value.bool false).cells (n * 1)).toList = List.replicate n (Value.bool false) := by
    rw [Nat.mul_one]
    exact toList_madeCells_one _ _
  rw [← e]
  exact h1
end
end Go.Proofs.YtigeipjkcidleaaGreatDoor

namespace Go.Proofs.YtigeipjkcidleaaGreatDoor
open Go.RowKit

def ShRet (l : List Int) (w : World) (e : Ending) (w' : World) : Prop := ∃ (g c : Nat) (o : List Nat), e = .returned (.tuple #[.slice (some ⟨g, 0, none⟩) l.length c, .int .i64 0]) ∧ o.length = l.length ∧ Tc.sN o = (if Tc.sm l = 0 then 0 else 1000) ∧ R1 3 .i64 w' w.heap.size (.slice (some ⟨g, 0, none⟩) l.length c) o ∧ Below w.heap.size w w'
/-- What is in the row after k rounds. -/
def shrAt (S : Int) (l : List Int) (k : Nat) : List Nat := ((l.take k).map fun x => (1000 * x / S).toNat) ++ List.replicate (l.length - k) 0
theorem shrAt_len (S : Int) (l : List Int) (k : Nat) (h : k ≤ l.length) : (shrAt S l k).length = l.length := by
  unfold shrAt
  simp
  omega
theorem shrAt_set (S : Int) (l : List Int) (k : Nat) (h : k < l.length) : (shrAt S l k).set k ((1000 * l[k] / S).toNat) = shrAt S l (k + 1) := by
  unfold shrAt
  apply List.ext_getElem
  · simp; omega
  · intro j h1 h2
    rw [List.getElem_set]
    by_cases e : k = j
    · subst e
      rw [if_pos rfl, List.getElem_append_left (by simp; omega)]
      simp
    · rw [if_neg e]
      by_cases e2 : j < k
      · rw [List.getElem_append_left (by simp; omega), List.getElem_append_left (by simp; omega)]
        simp
      · rw [List.getElem_append_right (by simp; omega), List.getElem_append_right (by simp; omega)]
        simp
theorem shrAt_sum (S : Int) (hS : 0 < S) (l : List Int) (k : Nat) (hl : ∀ x ∈ l, 0 ≤ x) : ((Tc.sN (shrAt S l k) : Nat) : Int) = Tc.sm ((l.take k).map fun x => 1000 * x / S) := by
  unfold shrAt
  rw [Tc.sN_app, Tc.sN_rep, Nat.add_zero, Tc.sN_map]
  intro x hx
  have := hl x (List.mem_of_mem_take hx)
  exact Int.ediv_nonneg (by omega) (by omega)
set_option maxRecDepth 100000 in
set_option maxHeartbeats 8000000 in
theorem shares_any (A : Option Addr) (n c : Nat) (l : List Int) (w : World) (hr : RdI w (.slice A n c) l) (hn1 : 1 ≤ n) (hn2 : n ≤ 200) (hrg : ∀ x ∈ l, 0 ≤ x ∧ x ≤ 83333333333) :
    Calls Tryz.prog 20 #[.slice A n c] w (ShRet l w) := by
  obtain ⟨hln, hr⟩ := hr.one
  obtain ⟨b2, o2, rfl, hb2, hc⟩ := hr (by omega)
  have HG := Lib.hid hrg
  have HY := Lib.hid (show ∀ W, Below w.heap.size w W → ∀ i (hi : i < l.length), W.cell? ⟨b2, o2 + i, none⟩ = some (.int .i64 l[i]) from fun W hb i hi => (hb.cell (p := ⟨b2, o2 + i, none⟩) hb2).trans (hc i hi))
  have HLN := Lib.hid hln
  have HNN := Lib.hid (show ∀ x ∈ l, 0 ≤ x from fun x hx => (HG.out x hx).1)
  have HUP := Lib.hid (show ∀ k, k ≤ l.length → Tc.sm (l.take k) ≤ k * 83333333333 from fun k => by
    induction k with
    | zero => intro _; simp [Tc.sm]
    | succ k ih =>
      intro hk
      rw [Tc.sm_take_succ l k hk]
      have := ih (by omega)
      have := (HG.out _ (List.getElem_mem hk)).2
      push_cast
      omega)
  obtain ⟨S, hS⟩ : ∃ S, S = Tc.sm l := ⟨_, rfl⟩
  have HS := Lib.hid hS
  have nz1 : ((n : Int) == 0) = false := by rw [beq_eq_false_iff_ne]; omega
  clear hr hc hrg hln hb2
  go_enter Tryz.func20, Tryz.ntmps20
  go_wp2_with fail
  go_loopw [4, 23] (fun u5 u wr => ∃ k : Nat, k ≤ n ∧ u = .int .i64 k ∧ u5 = .int .i64 (Tc.sm (l.take k)) ∧ Hid (Below w.heap.size w wr)) (fun _ u _ => n - (intOf u).toNat)
  case atStart => exact ⟨0, Nat.zero_le _, rfl, rfl, Lib.hid (Below.refl _ _)⟩
  case round =>
    obtain ⟨j, hj, rfl, rfl, HB⟩ := hrel
    by_cases hlt : j < n
    · have hjl : j < l.length := by have := HLN.out; omega
      have d1 := HY.out _ HB.out j hjl
      have hst := Tc.sm_take_succ l j hjl
      obtain ⟨r0, -⟩ := Tc.sm_take_le HNN.out j
      have r1 := HUP.out j (by omega)
      obtain ⟨g0, g1⟩ := HG.out _ (List.getElem_mem hjl)
      obtain ⟨y, hy⟩ : ∃ y, y = l[j] := ⟨_, rfl⟩
      rw [← hy] at d1 hst g0 g1
      have HST := Lib.hid hst
      clear hy hst
      generalize Tc.sm (l.take j) = s at r0 r1 HST
      go_wp2_with fail
      go_roundw
      case rel => exact ⟨j + 1, by omega, by go_num, by rw [HST.out], HB⟩
      case measure => simp [intOf]; omega
    · have hs0 : Tc.sm (l.take j) = S := by rw [hS, List.take_of_length_le (by have := HLN.out; omega)]
      have b0 : 0 ≤ S := by rw [hS]; exact Tc.sm_nonneg HNN.out
      have b1 : S ≤ 200 * 83333333333 := by
        have := HUP.out l.length (Nat.le_refl _)
        rw [List.take_length, ← hS] at this
        have := HLN.out
        omega
      rw [hs0]
      clear hs0 hS
      obtain ⟨wo, rfl⟩ : ∃ wo : World, wo = wr := ⟨_, rfl⟩
      have hwo := HB.out.size
      by_cases hS0 : S = 0
      · subst hS0
        go_wp2_with (at_make; refine wp_makeI rfl _ _ rfl w.heap.size _ _ n rfl rfl rfl rfl (by omega) HB.out.size ?_; intro w1 ho1 hg1 hs1; have HO := Lib.hid ho1; have HB1 := Lib.hid (bel2 HB.out hg1); clear ho1 hg1 hs1)
        go_ret2
        have hlx := HLN.out
        subst hlx
        exact ⟨_, _, _, rfl, by simp, by rw [← HS.out, if_pos rfl]; exact Tc.sN_rep _, HO.out, HB1.out⟩
      · have hSp : 0 < S := by omega
        have hSb : (S == 0) = false := by rw [beq_eq_false_iff_ne]; exact hS0
        clear hS0
        go_wp2_with (at_make; refine wp_makeI rfl _ _ rfl w.heap.size _ _ n rfl rfl rfl rfl (by omega) HB.out.size ?_; intro w1 ho1 hg1 hs1; have HO := Lib.hid ho1; have HB1 := Lib.hid (bel2 HB.out hg1); clear ho1 hg1 hs1)
        have hSum := Tc.shr_rng S hSp l HNN.out HS.out.symm (by have := HLN.out; omega)
        have HSB := Lib.hid (show ∀ k, k ≤ l.length → Tc.sN (shrAt S l k) ≤ 1000 from fun k hk => by
          have h1 := shrAt_sum S hSp l k HNN.out
          have h2 := (Tc.sm_take_le (l := l.map fun x => 1000 * x / S) (fun x hx => by
            obtain ⟨y, hy, rfl⟩ := List.mem_map.1 hx
            have := HNN.out y hy
            exact Int.ediv_nonneg (by omega) (by omega)) k).2
          rw [← List.map_take] at h2
          have := hSum.1
          omega)
        have HSM := Lib.hid hSum
        clear hSum
        go_loopw [8, 45] (fun u8 u wr => ∃ k : Nat, k ≤ n ∧ u = .int .i64 k ∧ u8 = .int .i64 (1000 - (Tc.sN (shrAt S l k) : Int)) ∧ Hid (R1 3 .i64 wr w.heap.size (.slice (some ⟨wo.heap.size, 0, none⟩) n n) (shrAt S l k)) ∧ Hid (Below w.heap.size w wr)) (fun _ u _ => n - (intOf u).toNat)
        case atStart => exact ⟨0, Nat.zero_le _, rfl, by rw [show Tc.sN (shrAt S l 0) = 0 from by unfold shrAt; simp [Tc.sN_rep]]; rfl, Lib.hid (by rw [show shrAt S l 0 = List.replicate n 0 from by unfold shrAt; simp [HLN.out]]; exact HO.out), HB1⟩
        case round =>
          clear HO HB1 HB
          obtain ⟨k, hk, rfl, rfl, HO, HB⟩ := hrel
          have HLE := Lib.hid (shrAt_len S l k (by have := HLN.out; omega))
          by_cases hlk : k < n
          · have hkl : k < l.length := by have := HLN.out; omega
            have d1 := HY.out _ HB.out k hkl
            obtain ⟨g0, g1⟩ := HG.out _ (List.getElem_mem hkl)
            have g2 := Tc.le_sm HNN.out _ (List.getElem_mem hkl)
            rw [← HS.out] at g2
            have hset := shrAt_set S l k hkl
            have hs1 := shrAt_sum S hSp l k HNN.out
            have hs2 := shrAt_sum S hSp l (k + 1) HNN.out
            rw [List.take_succ_eq_append_getElem hkl, List.map_append, Tc.sm_app, ← hs1] at hs2
            simp only [List.map_cons, List.map_nil, Tc.sm, Int.add_zero] at hs2
            have hb1 := HSB.out k (by omega)
            obtain ⟨y, hy⟩ : ∃ y, y = l[k] := ⟨_, rfl⟩
            rw [← hy] at d1 g0 g1 g2 hset hs2
            have q0 : 0 ≤ 1000 * y / S := Int.ediv_nonneg (by omega) (by omega)
            have q1 : 1000 * y / S ≤ 1000 := by rw [Int.ediv_le_iff_le_mul hSp]; omega
            have f0 := HO.out.frozen (by rw [HLE.out, HLN.out]) k
            have hkx : k < (shrAt S l k).length := by rw [HLE.out]; exact hkl
            have c0 := HO.out.cell (by rw [HLE.out, HLN.out]) hkx
            have HO2 := Lib.hid (show R1 3 .i64 (wr.setCell ⟨wo.heap.size, k, none⟩ (.int .i64 (1000 * y / S))) w.heap.size (.slice (some ⟨wo.heap.size, 0, none⟩) n n) (shrAt S l (k + 1)) from by
              rw [← hset]
              exact HO.out.set (by rw [HLE.out, HLN.out]) k _ (by omega))
            have HSX := Lib.hid hs2
            have HB2 := Lib.hid (HB.out.setCell (p := ⟨wo.heap.size, k, none⟩) hwo (.int .i64 (1000 * y / S)))
            have hxx : ((shrAt S l k)[k] : Int) = ((shrAt S l k)[k] : Int) := rfl
            generalize (((shrAt S l k)[k] : Nat) : Int) = old at c0
            clear hy hset hs1 hs2 hkx hxx
            generalize Tc.sN (shrAt S l k) = sk at hb1 HSX
            go_wp2_with fail
            go_roundw
            case rel => exact ⟨k + 1, by omega, by go_num, by rw [HSX.out]; exact congrArg (Value.int .i64) (by omega), HO2, HB2⟩
            case measure => simp [intOf]; omega
          · obtain rfl : k = n := by omega
            have hL := HSM.out
            have e1 := shrAt_sum S hSp l k HNN.out
            rw [List.take_of_length_le (by have := HLN.out; omega)] at e1
            rw [← e1, HLN.out] at hL
            obtain ⟨L0, hL0⟩ : ∃ L0 : Nat, 1000 - (Tc.sN (shrAt S l k) : Int) = L0 := ⟨1000 - Tc.sN (shrAt S l k), by omega⟩
            rw [hL0]
            have HI1 := Lib.hid (show Tc.sN (shrAt S l k) + L0 = 1000 by omega)
            have HI2 := Lib.hid (show L0 < k by omega)
            have HLE2 := Lib.hid (show (shrAt S l k).length = k by rw [HLE.out, HLN.out])
            have HWX := Lib.hid (show wo.heap.size < wr.heap.size from (R1.lt HO.out _ rfl).2)
            generalize shrAt S l k = o0 at HO HI1 HLE2
            clear e1 hL hL0 HSM HSB HLE HUP
            obtain ⟨wp, rfl⟩ : ∃ wp : World, wp = wr := ⟨_, rfl⟩
            have hwp := HB.out.size
            go_wp2_with (at_make; refine wp_makeB rfl _ _ rfl w.heap.size _ _ k rfl rfl rfl rfl (by omega) HB.out.size ?_; intro w1 ho1 hg1 hs1; have HU := Lib.hid ho1; have HB1 := Lib.hid (bel2 HB.out hg1); have HO1 := Lib.hid (HO.out.later hg1); clear ho1 hg1 hs1)
            go_loopw [8, 12] (fun u8 _ wr => ∃ (left : Nat) (o : List Nat) (ups : List Bool), u8 = .int .i64 left ∧ Hid (o.length = k) ∧ Hid (ups.length = k) ∧ Hid (Tc.sN o + left = 1000) ∧ Hid (Tc.cnt ups + left < k) ∧ Hid (R1 3 .i64 wr w.heap.size (.slice (some ⟨wo.heap.size, 0, none⟩) k k) o) ∧ Hid (RB wr w.heap.size (.slice (some ⟨wp.heap.size, 0, none⟩) k k) ups) ∧ Hid (Below w.heap.size w wr)) (fun u _ _ => (intOf u).toNat)
            case atStart => exact ⟨L0, o0, List.replicate k false, rfl, HLE2, Lib.hid (by simp), HI1, Lib.hid (by rw [Tc.cnt_rep]; have := HI2.out; omega), HO1, HU, HB1⟩
            case round =>
              clear HO HO1 HU HB1 HI1 HI2 HLE2 HB
              obtain ⟨left, o, ups, rfl, HOL, HUL, HI1, HI2, HO, HU, HB⟩ := hrel
              by_cases hl0 : 0 < left
              · have hl1 : (0 : Int) < (left : Int) := by omega
                have hl2 : left ≤ 1000 := by have := HI1.out; omega
                go_wp2_with fail
                obtain ⟨wq, rfl⟩ : ∃ wq : World, wq = wr := ⟨_, rfl⟩
                go_loopw [12, 73] (fun u12 u wr => ∃ (q : Nat) (b : Int), q ≤ k ∧ u = .int .i64 q ∧ u12 = .int .i64 b ∧ -1 ≤ b ∧ b < k ∧ Hid ((b = -1 ∧ ∀ i (hi : i < ups.length), i < q → ups[i] = true) ∨ (∃ bn : Nat, b = bn ∧ ∃ h : bn < ups.length, ups[bn] = false)) ∧ Hid (R1 3 .i64 wr w.heap.size (.slice (some ⟨wo.heap.size, 0, none⟩) k k) o) ∧ Hid (RB wr w.heap.size (.slice (some ⟨wp.heap.size, 0, none⟩) k k) ups) ∧ Hid (Below w.heap.size w wr)) (fun _ u _ => k - (intOf u).toNat)
                case atStart => exact ⟨0, -1, Nat.zero_le _, rfl, rfl, by decide, by omega, Lib.hid (.inl ⟨rfl, fun i _ h => by omega⟩), HO, HU, HB⟩
                case round =>
                  clear HO HU HB
                  obtain ⟨q, b, hq, rfl, rfl, hb0, hb1, HD, HO, HU, HB⟩ := hrel
                  by_cases hlq : q < k
                  · have hql : q < l.length := by have := HLN.out; omega
                    have hqu : q < ups.length := by have := HUL.out; omega
                    have d1 := HY.out _ HB.out q hql
                    have u1 := HU.out.cell HUL.out hqu
                    obtain ⟨g0, g1⟩ := HG.out _ (List.getElem_mem hql)
                    obtain ⟨y, hy⟩ : ∃ y, y = l[q] := ⟨_, rfl⟩
                    rw [← hy] at d1 g0 g1
                    clear hy
                    obtain ⟨ub, hub⟩ : ∃ ub, ub = ups[q]'hqu := ⟨_, rfl⟩
                    rw [← hub] at u1
                    have hup := hub.symm
                    have HQU := Lib.hid hqu
                    clear hub
                    rcases ub with _ | _
                    · have HNE := Lib.hid (show (∃ bn : Nat, (q : Int) = bn ∧ ∃ h : bn < ups.length, ups[bn] = false) from ⟨q, rfl, hqu, hup⟩)
                      clear hup hqu
                      rcases HD.out with ⟨rfl, -⟩ | ⟨bn, rfl, hbn, hbf⟩
                      · go_upto_region 30 with fail
                        go_quiet (fail)
                        go_wp2_with fail
                        go_roundw
                        case rel => exact ⟨q + 1, q, by omega, by go_num, rfl, by omega, by omega, Lib.hid (.inr HNE.out), Lib.hid (HO.out.drewN _), Lib.hid (HU.out.drewN _), Lib.hid (bdn HB.out _)⟩
                        case measure => simp [intOf]; omega
                      · have hbl : bn < l.length := by have := HLN.out; have := HUL.out; omega
                        have d2 := HY.out _ HB.out bn hbl
                        obtain ⟨g2, g3⟩ := HG.out _ (List.getElem_mem hbl)
                        obtain ⟨yb, hyb⟩ : ∃ y, y = l[bn] := ⟨_, rfl⟩
                        rw [← hyb] at d2 g2 g3
                        clear hyb
                        have HBF := Lib.hid (show (∃ bn' : Nat, (bn : Int) = bn' ∧ ∃ h : bn' < ups.length, ups[bn'] = false) from ⟨bn, rfl, hbn, hbf⟩)
                        clear hbf HD
                        have hbk : bn < k := by omega
                        have z1 : IntKind.i64.wrap (1000 * y) = 1000 * y := IntWalk.i64_in _ (by omega)
                        have z2 : IntKind.i64.wrap (1000 * yb) = 1000 * yb := IntWalk.i64_in _ (by omega)
                        have p1 : 0 ≤ 1000 * y := by omega
                        have p2 : 0 ≤ 1000 * yb := by omega
                        have hS9 : ¬ S = 0 := by omega
                        have em1 := Int.emod_nonneg (1000 * y) hS9
                        have em2 := Int.emod_nonneg (1000 * yb) hS9
                        have em3 := Int.emod_lt_of_pos (1000 * y) hSp
                        have em4 := Int.emod_lt_of_pos (1000 * yb) hSp
                        rw [← Int.tmod_eq_emod_of_nonneg p1] at em1 em3
                        rw [← Int.tmod_eq_emod_of_nonneg p2] at em2 em4
                        have z3 : IntKind.i64.wrap ((1000 * y).tmod S) = (1000 * y).tmod S := IntWalk.i64_in _ (by omega)
                        have z4 : IntKind.i64.wrap ((1000 * yb).tmod S) = (1000 * yb).tmod S := IntWalk.i64_in _ (by omega)
                        by_cases hcmp : (1000 * yb).tmod S < (1000 * y).tmod S
                        · have hcm : decide ((1000 * yb).tmod S < (1000 * y).tmod S) = true := decide_eq_true hcmp
                          go_upto_region 30 with fail
                          go_quiet (fail)
                          go_wp2_with fail
                          go_roundw
                          case rel => exact ⟨q + 1, q, by omega, by go_num, rfl, by omega, by omega, Lib.hid (.inr HNE.out), Lib.hid (HO.out.drewN _), Lib.hid (HU.out.drewN _), Lib.hid (bdn HB.out _)⟩
                          case measure => simp [intOf]; omega
                        · have hcm : decide ((1000 * yb).tmod S < (1000 * y).tmod S) = false := decide_eq_false hcmp
                          go_upto_region 30 with fail
                          go_quiet (fail)
                          go_wp2_with fail
                          go_roundw
                          case rel => exact ⟨q + 1, bn, by omega, by go_num, rfl, by omega, by omega, Lib.hid (.inr HBF.out), Lib.hid (HO.out.drewN _), Lib.hid (HU.out.drewN _), Lib.hid (bdn HB.out _)⟩
                          case measure => simp [intOf]; omega
                    · have HD2 := Lib.hid (show ((b = -1 ∧ ∀ i (hi : i < ups.length), i < q + 1 → ups[i] = true) ∨ (∃ bn : Nat, b = bn ∧ ∃ h : bn < ups.length, ups[bn] = false)) from by
                        rcases HD.out with ⟨e, h⟩ | h
                        · refine .inl ⟨e, fun i hi h2 => ?_⟩
                          by_cases e2 : i = q
                          · subst e2; exact hup
                          · exact h i hi (by omega)
                        · exact .inr h)
                      clear hup hqu
                      go_upto_region 30 with fail
                      go_quiet (fail)
                      go_wp2_with fail
                      go_roundw
                      case rel => exact ⟨q + 1, b, by omega, by go_num, rfl, by omega, by omega, HD2, Lib.hid (HO.out.drewN _), Lib.hid (HU.out.drewN _), Lib.hid (bdn HB.out _)⟩
                      case measure => simp [intOf]; omega
                  · obtain ⟨bn, hb9, hbn, hbf⟩ : ∃ bn : Nat, b = bn ∧ ∃ h : bn < ups.length, ups[bn] = false := by
                      rcases HD.out with ⟨-, h⟩ | h
                      · exfalso
                        obtain ⟨i, hi, hf⟩ := Tc.cnt_false (l := ups) (by have := HI2.out; have := HUL.out; omega)
                        rw [h i hi (by have := HUL.out; omega)] at hf
                        cases hf
                      · exact h
                    subst hb9
                    clear HD
                    have hbo : bn < o.length := by have := HOL.out; have := HUL.out; omega
                    have u1 := HU.out.cell HUL.out hbn
                    have f1 := HU.out.frozen HUL.out bn
                    have hne : wo.heap.size ≠ wp.heap.size := by have := HWX.out; omega
                    have HO2 := HO.out.far (p := ⟨wp.heap.size, bn, none⟩) (fun g hg => by injection hg with hg; subst hg; exact hne) (.bool true)
                    have HU2 := HU.out.set HUL.out bn true
                    have o1 := HO2.cell HOL.out hbo
                    have f2 := HO2.frozen HOL.out bn
                    have hov : o[bn] ≤ 1000 := by
                      have h1 := Tc.sN_set o bn hbo 0
                      have := HI1.out
                      omega
                    have hs1 := Tc.sN_set o bn hbo (o[bn] + 1)
                    have hc1 := Tc.cnt_set ups bn hbn hbf
                    obtain ⟨ov, hov2⟩ : ∃ ov, ov = o[bn] := ⟨_, rfl⟩
                    rw [← hov2] at o1 hov hs1
                    have HO3 := HO2.set HOL.out bn (ov + 1) (y := (ov : Int) + 1) (by push_cast; rfl)
                    have HU3 := Lib.hid (RowOf.far HU2 (p := ⟨wo.heap.size, bn, none⟩) (fun g hg => by injection hg with hg; subst hg; exact fun e => hne e.symm) (.int .i64 ((ov : Int) + 1)))
                    have HO4 := Lib.hid HO3
                    have HB4 := Lib.hid ((HB.out.setCell (p := ⟨wp.heap.size, bn, none⟩) hwp (.bool true)).setCell (p := ⟨wo.heap.size, bn, none⟩) hwo (.int .i64 ((ov : Int) + 1)))
                    have HS4 := Lib.hid (show Tc.sN (o.set bn (ov + 1)) + (left - 1) = 1000 by have := HI1.out; omega)
                    have HC4 := Lib.hid (show Tc.cnt (ups.set bn true) + (left - 1) < k by have := HI2.out; omega)
                    have HL4 := Lib.hid (show (o.set bn (ov + 1)).length = k by simp [HOL.out])
                    have HK4 := Lib.hid (show (ups.set bn true).length = k by simp [HUL.out])
                    have hbk : bn < k := by omega
                    generalize ups[bn]'hbn = uv at u1
                    clear hs1 hc1 hov2 HO2 HU2 HO3 hbf HO HU HB hbo hbn
                    go_wp2_with fail
                    go_roundw
                    case rel => exact ⟨left - 1, _, _, by rw [Int.natCast_sub (by omega)]; rfl, HL4, HK4, HS4, HC4, HO4, HU3, HB4⟩
                    case measure => simp [intOf]; omega
              · have HFIN := Lib.hid (show Tc.sN o = (if Tc.sm l = 0 then 0 else 1000) from by
                  rw [← HS.out, if_neg (by omega)]
                  have := HI1.out
                  omega)
                have hl0' : left = 0 := by omega
                subst hl0'
                go_wp2_with fail
                go_ret2
                have hlx := HLN.out
                subst hlx
                exact ⟨_, _, o, rfl, HOL.out, HFIN.out, HO.out, HB.out⟩
end Go.Proofs.YtigeipjkcidleaaGreatDoor
