/- pivot: group, result for sums and counts. -/
import Derived.Test.YtmapagbmihpbmaaGreatDoorGq
import Derived.Test.YtmapagbmihpbmaaGreatDoorGp
import Derived.Deep.DeepCutAuto
set_option linter.unusedSimpArgs false
set_option linter.unusedVariables false
namespace Go.Proofs.YtmapagbmihpbmaaGreatDoor
open Go.RowKit

instance : Inhabited Rm := ⟨⟨0, 0, 0, default⟩⟩
/-- The records of a row and a column. -/
def grM (l : List Rm) (i k : Nat) : List Rm := Pv.gr Rm.row Rm.col l i k
theorem Reads.lt {α : Type} {size : Nat} {f : α → List Value} {W : World} {b o n c : Nat} {l : List α} (h : Reads size f W (.slice (some ⟨b, o, none⟩) n c) l) (h0 : 0 < n) : l.length = n ∧ b < W.heap.size ∧ ∀ i (hi : i < l.length) j, j < size → W.cell? ⟨b, o + (i * size + j), none⟩ = (f l[i])[j]? := by
  obtain ⟨A', c', e, -, -, h3⟩ := h
  injection e with e1 e2 e3
  obtain ⟨b', o', e4, hb, hc⟩ := h3 (by omega)
  rw [← e1] at e4
  injection e4 with e4
  injection e4 with e5 e6
  subst e5 e6
  exact ⟨e2.symm, hb, hc⟩
set_option maxRecDepth 100000 in
set_option maxHeartbeats 8000000 in
theorem group_any (s1 s2 : Value) (hs1 : ∃ A n c, s1 = .slice A n c) (hs2 : ∃ A n c, s2 = .slice A n c) (g3 c3 R : Nat) (L : List Rm) (i k : Nat) (w : World) (hL : Reads 12 rmC w (.slice (some ⟨g3, 0, none⟩) R c3) L) (hR : 1 ≤ R) (hR2 : R ≤ 100000) (hi : i ≤ 100000) (hk : k ≤ 100000) :
    Calls Tryz.prog 24 #[.agg #[s1, s2, .slice (some ⟨g3, 0, none⟩) R c3], .int .i64 (i : Int), .int .i64 (k : Int)] w fun e w' => ∃ v, e = .returned v ∧ RO w' w.heap.size v (grM L i k) ∧ Below w.heap.size w w' := by
  obtain ⟨hl, hbl, hcell⟩ := hL.lt (by omega)
  have hlen : L.length ≤ 100000 := by omega
  have HC := Lib.hid (show ∀ j (hj : j < R), ∃ r, r = L[j]! ∧ ∀ W, Below w.heap.size w W → ∀ q, q < 12 → W.cell? ⟨g3, j * 12 + q, none⟩ = (rmC r)[q]? from fun j hj => ⟨_, rfl, fun W hW q hq => by
    have := hcell j (by omega) q hq
    rw [Nat.zero_add, ← getElem!_pos L j (by omega)] at this
    exact (hW.cell (by exact hbl)).trans this⟩)
  have HG := Lib.hid (show ∀ j (hj : j < R) r, r = L[j]! → grM (L.take (j + 1)) i k = if r.row = i ∧ r.col = k then grM (L.take j) i k ++ [r] else grM (L.take j) i k from fun j hj r hr => by
    have h9 : j < L.length := by omega
    rw [getElem!_pos L j h9] at hr
    rw [← List.take_append_getElem h9, ← hr]
    unfold grM Pv.gr
    rw [List.filter_append]
    by_cases h : r.row = i ∧ r.col = k
    · rw [if_pos h, List.filter_cons_of_pos (by simp [h.1, h.2])]; rfl
    · rw [if_neg h, List.filter_cons_of_neg (by simpa using h)]; simp)
  have HGL := Lib.hid (show ∀ j, (grM (L.take j) i k).length ≤ 100000 from fun j => Nat.le_trans (List.length_filter_le _ _) (Nat.le_trans (List.length_take_le' _ _) hlen))
  obtain ⟨A1, n1, c1, rfl⟩ := hs1
  obtain ⟨A2, n2, c2, rfl⟩ := hs2
  have hB0 : Below w.heap.size w (w.alloc (.cells #[.slice A1 n1 c1, .slice A2 n2 c2, .slice (some ⟨g3, 0, none⟩) R c3] 56)) := (Below.refl _ _).alloc (Nat.le_refl _) _
  have HB0 := Lib.hid hB0
  have HLL := Lib.hid hl
  have HGE := Lib.hid (show grM (L.take R) i k = grM L i k from by rw [List.take_of_length_le (by omega)])
  clear hL hcell hl hB0
  go_enter Tryz.func24, Tryz.ntmps24
  go_wp2_with fail
  go_loopw [7, 13] (fun u7 u13 wr => ∃ (j : Nat), j ≤ R ∧ u13 = .int .i64 j ∧ Hid (RO wr w.heap.size u7 (grM (L.take j) i k)) ∧ Hid (Below w.heap.size w wr)) (fun _ u _ => R - (intOf u).toNat)
  case atStart => exact ⟨0, by omega, rfl, Lib.hid (RowOf.nil _ _), HB0⟩
  case round =>
    clear HB0
    obtain ⟨j, hj, rfl, HO, HB⟩ := hrel
    by_cases hlt : j < R
    · have hlz : (j : Int) < (R : Int) := by omega
      obtain ⟨r, hr, hcl⟩ := HC.out j hlt
      have HGj := Lib.hid (HG.out j hlt r hr)
      have hgl := HGL.out j
      obtain ⟨ra, rr, rl, ⟨uk, unum, uden, utext, uon, ucode, urows, ucols, uA, un, uc⟩⟩ := r
      have e0 : wr.cell? ⟨g3, j * 12, none⟩ = some (.int .i64 (ra : Int)) := hcl wr HB.out 0 (by decide)
      have e1 : wr.cell? ⟨g3, j * 12 + 1, none⟩ = some (.int .i64 (rr : Int)) := hcl wr HB.out 1 (by decide)
      have e2 : wr.cell? ⟨g3, j * 12 + 2, none⟩ = some (.int .i64 (rl : Int)) := hcl wr HB.out 2 (by decide)
      have e3 : wr.cell? ⟨g3, j * 12 + 3, none⟩ = some (.int .i64 uk) := hcl wr HB.out 3 (by decide)
      have e4 : wr.cell? ⟨g3, j * 12 + 4, none⟩ = some (.string unum) := hcl wr HB.out 4 (by decide)
      have e5 : wr.cell? ⟨g3, j * 12 + 5, none⟩ = some (.string uden) := hcl wr HB.out 5 (by decide)
      have e6 : wr.cell? ⟨g3, j * 12 + 6, none⟩ = some (.string utext) := hcl wr HB.out 6 (by decide)
      have e7 : wr.cell? ⟨g3, j * 12 + 7, none⟩ = some (.bool uon) := hcl wr HB.out 7 (by decide)
      have e8 : wr.cell? ⟨g3, j * 12 + 8, none⟩ = some (.int .i64 ucode) := hcl wr HB.out 8 (by decide)
      have e9 : wr.cell? ⟨g3, j * 12 + 9, none⟩ = some (.int .i64 urows) := hcl wr HB.out 9 (by decide)
      have e10 : wr.cell? ⟨g3, j * 12 + 10, none⟩ = some (.int .i64 ucols) := hcl wr HB.out 10 (by decide)
      have e11 : wr.cell? ⟨g3, j * 12 + 11, none⟩ = some (.slice uA un uc) := hcl wr HB.out 11 (by decide)
      clear hcl hr
      go_upto_region 5 with fail
      have hbk := Blk.new wr 61 #[.int .i64 (ra : Int), .int .i64 (rr : Int), .int .i64 (rl : Int), .int .i64 uk, .string unum, .string uden, .string utext, .bool uon, .int .i64 ucode, .int .i64 urows, .int .i64 ucols, .slice uA un uc]
      have HBA := Lib.hid (HB.out.alloc HB.out.size (.cells #[.int .i64 (ra : Int), .int .i64 (rr : Int), .int .i64 (rl : Int), .int .i64 uk, .string unum, .string uden, .string utext, .bool uon, .int .i64 ucode, .int .i64 urows, .int .i64 ucols, .slice uA un uc] 61))
      have HOA := Lib.hid (RowOf.alloc HO.out (.cells #[.int .i64 (ra : Int), .int .i64 (rr : Int), .int .i64 (rl : Int), .int .i64 uk, .string unum, .string uden, .string utext, .bool uon, .int .i64 ucode, .int .i64 urows, .int .i64 ucols, .slice uA un uc] 61))
      clear e0 e1 e2 e3 e4 e5 e6 e7 e8 e9 e10 e11 HB HO
      revert hbk HBA HOA
      generalize wr.alloc (.cells #[.int .i64 (ra : Int), .int .i64 (rr : Int), .int .i64 (rl : Int), .int .i64 uk, .string unum, .string uden, .string utext, .bool uon, .int .i64 ucode, .int .i64 urows, .int .i64 ucols, .slice uA un uc] 61) = W1
      intro hbk HBA HOA
      have c0 : W1.cell? ⟨wr.heap.size, 0, none⟩ = some (.int .i64 (ra : Int)) := hbk.cell 0
      have c1 : W1.cell? ⟨wr.heap.size, 1, none⟩ = some (.int .i64 (rr : Int)) := hbk.cell 1
      have c2 : W1.cell? ⟨wr.heap.size, 2, none⟩ = some (.int .i64 (rl : Int)) := hbk.cell 2
      have c3 : W1.cell? ⟨wr.heap.size, 3, none⟩ = some (.int .i64 uk) := hbk.cell 3
      have c4 : W1.cell? ⟨wr.heap.size, 4, none⟩ = some (.string unum) := hbk.cell 4
      have c5 : W1.cell? ⟨wr.heap.size, 5, none⟩ = some (.string uden) := hbk.cell 5
      have c6 : W1.cell? ⟨wr.heap.size, 6, none⟩ = some (.string utext) := hbk.cell 6
      have c7 : W1.cell? ⟨wr.heap.size, 7, none⟩ = some (.bool uon) := hbk.cell 7
      have c8 : W1.cell? ⟨wr.heap.size, 8, none⟩ = some (.int .i64 ucode) := hbk.cell 8
      have c9 : W1.cell? ⟨wr.heap.size, 9, none⟩ = some (.int .i64 urows) := hbk.cell 9
      have c10 : W1.cell? ⟨wr.heap.size, 10, none⟩ = some (.int .i64 ucols) := hbk.cell 10
      have c11 : W1.cell? ⟨wr.heap.size, 11, none⟩ = some (.slice uA un uc) := hbk.cell 11
      have HSZ := Lib.hid HBA.out.size
      have hi0 : ¬ (i : Int) < 0 := by omega
      have hk0 : ¬ (k : Int) < 0 := by omega
      by_cases h1 : rr = i
      · have e1 : ((rr : Int) == (i : Int)) = true := by rw [beq_iff_eq]; omega
        by_cases h2 : rl = k
        · have e2 : ((rl : Int) == (k : Int)) = true := by rw [beq_iff_eq]; omega
          subst h1 h2
          go_wp2_with (at_builtin; go_loud (refine wp_row1 54 61 12 136 rmC _ Tryz.underlying54 rec_info rfl (by decide) rm_one rfl _ _ rfl w.heap.size _ _ rfl HOA.out ⟨ra, rr, rl, ⟨uk, unum, uden, utext, uon, ucode, urows, ucols, uA, un, uc⟩⟩ _ ?_ rfl (by omega) (by unfold maxLen; omega) HSZ.out ?_); (rfl); intro v3 w3 ho hb hg; have HO3 := Lib.hid ho; have HB3 := Lib.hid (HBA.out.trans (hb.mono (Nat.le_refl _))); clear ho hb hg)
          go_roundw
          case rel => exact ⟨j + 1, by omega, by go_num, Lib.hid (by rw [HGj.out, if_pos ⟨rfl, rfl⟩]; exact HO3.out), HB3⟩
          case measure => simp [intOf]; omega
        · have e2 : ((rl : Int) == (k : Int)) = false := by rw [beq_eq_false_iff_ne]; omega
          go_wp2_with fail
          go_roundw
          case rel => exact ⟨j + 1, by omega, by go_num, Lib.hid (by rw [HGj.out, if_neg (fun h => h2 h.2)]; exact HOA.out), HBA⟩
          case measure => simp [intOf]; omega
      · have e1 : ((rr : Int) == (i : Int)) = false := by rw [beq_eq_false_iff_ne]; omega
        go_wp2_with fail
        go_roundw
        case rel => exact ⟨j + 1, by omega, by go_num, Lib.hid (by rw [HGj.out, if_neg (fun h => h1 h.1)]; exact HOA.out), HBA⟩
        case measure => simp [intOf]; omega
    · have hlz : ¬ (j : Int) < (R : Int) := by omega
      obtain rfl : j = R := by omega
      go_wp2_with fail
      go_ret
      exact ⟨_, rfl, by rw [← HGE.out]; exact HO.out, HB.out⟩
end Go.Proofs.YtmapagbmihpbmaaGreatDoor

namespace Go.Proofs.YtmapagbmihpbmaaGreatDoor
open Go.RowKit

def frC (n : Nat) : List Value := [.string (nt n), .string ⟨#[49]⟩]
theorem fr_one (n : Nat) : (frC n).length = 2 ∧ ∀ u ∈ frC n, u.oneCell' = true := ⟨rfl, by simp [frC, Value.oneCell']⟩
theorem fr_info : (Tryz.prog.info? 24).map (fun i => (i.zero, i.size, i.bytes)) = some (some (.agg #[.string ⟨#[]⟩, .string ⟨#[]⟩]), 2, 32) := by kernel_rfl
/-- What is combined: the sum of the numbers, or their count. -/
def resN (N : Rm → Nat) (how : Int) (L : List Rm) : Nat := if how = 1 then L.length else Pv.sm N L
theorem Blk.grown {α : Type} {E t : TypeId} {size : Nat} {f : α → List Value} {W W' : World} {b g : Nat} {v : Value} {l : List α} {cs : Array Value} (h : Blk W g t cs) (hg : W.grownBy W' v.ownBlock) (ho : RowOf E size f W b v l) (hne : t ≠ E) : Blk W' g t cs :=
  (Chg.grownK hg).blk h h.lt fun hm => by
    obtain ⟨cs', h'⟩ := RowOf.typed ho g hm
    exact Blk.ne_ h h' hne rfl
theorem sm_take (N : Rm → Nat) (L : List Rm) (j : Nat) (h : j < L.length) : Pv.sm N (L.take (j + 1)) = Pv.sm N (L.take j) + N L[j]! := by
  rw [getElem!_pos L j h, ← List.take_append_getElem h, Pv.sm_app, Pv.sm_cons, Pv.sm_nil]; omega
set_option maxRecDepth 100000 in
set_option maxHeartbeats 16000000 in
theorem result_any (N : Rm → Nat) (how : Int) (A : Option Addr) (n c : Nat) (L : List Rm) (w : World) (he : VEnv w) (hL : Reads 12 rmC w (.slice A n c) L) (hn : n ≤ 14) (hN : ∀ r ∈ L, r.v = nV (N r) ∧ N r ≤ 50) (hh : how = 0 ∨ how = 1) :
    Calls Tryz.prog 19 #[.slice A n c, .int .i64 how] w fun e w' => e = .returned (nV (resN N how L)).v ∧ Below w.heap.size w w' := by
  have hl : L.length = n := by
    obtain ⟨A', c', e, -⟩ := hL
    injection e with e1 e2 e3
    exact e2.symm
  have HPT := Lib.hid he.pw
  have HC := Lib.hid (show ∀ j (hj : j < n), ∃ (b o ra rr rl : Nat) (tn : ByteArray), A = some ⟨b, o, none⟩ ∧ tn = nt (N L[j]!) ∧ ∀ W, Below w.heap.size w W → ∀ q, q < 12 → W.cell? ⟨b, o + j * 12 + q, none⟩ = (#[.int .i64 (ra : Int), .int .i64 (rr : Int), .int .i64 (rl : Int), .int .i64 1, .string tn, .string ⟨#[49]⟩, .string ⟨#[]⟩, .bool false, .int .i64 0, .int .i64 0, .int .i64 0, .slice none 0 0] : Array Value)[q]? from fun j hj => by
    obtain ⟨A', c', e, -, -, h3⟩ := hL
    injection e with e1 e2 e3
    obtain ⟨b, o, e4, hb, hc⟩ := h3 (by omega)
    have hm : L[j]! ∈ L := by rw [getElem!_pos L j (by omega)]; exact List.getElem_mem _
    have hv := (hN _ hm).1
    refine ⟨b, o, L[j]!.at_, L[j]!.row, L[j]!.col, _, e1.trans e4, rfl, fun W hW q hq => ?_⟩
    have := hc j (by omega) q hq
    rw [← getElem!_pos L j (by omega), ← Nat.add_assoc] at this
    refine ((hW.cell (by exact hb)).trans this).trans ?_
    unfold rmC
    rw [hv]
    simp [nV, Vl.cs])
  have HNM := Lib.hid (show ∀ j, j < n → ((L.take (j + 1)).map N) = (L.take j).map N ++ [N L[j]!] from fun j hj => by
    rw [getElem!_pos L j (by omega), ← List.take_append_getElem (by omega), List.map_append]; rfl)
  have hsm : ∀ j, Pv.sm N (L.take j) ≤ 700 := fun j => by
    have h1 := Pv.sm_le N 50 (L.take j) (fun r hr => (hN r (List.mem_of_mem_take hr)).2)
    have h2 : (L.take j).length ≤ 14 := Nat.le_trans (List.length_take_le' _ _) (by omega)
    omega
  have HSM := Lib.hid hsm
  have HNB := Lib.hid (show ∀ j, j < n → N L[j]! ≤ 50 from fun j hj => (hN _ (by rw [getElem!_pos L j (by omega)]; exact List.getElem_mem _)).2)
  have HST := Lib.hid (show ∀ j, j < n → Pv.sm N (L.take (j + 1)) = Pv.sm N (L.take j) + N L[j]! from fun j hj => sm_take N L j (by omega))
  have HEN := Lib.hid (show L.take n = L from List.take_of_length_le (by omega))
  have HHL := Lib.hid hl
  have HE := Lib.hid he
  have HL0 := Lib.hid ((Loc.start w).alloc' rfl 27 #[.int .i64 0, .string ⟨#[]⟩, .string ⟨#[]⟩, .string ⟨#[]⟩, .bool false, .int .i64 0, .int .i64 0, .int .i64 0, .slice none 0 0])
  clear hL hN he hsm hl
  have hml : ∀ j, ((L.take j).map N).length ≤ 14 := fun j => by rw [List.length_map]; exact Nat.le_trans (List.length_take_le' _ _) (by have := HHL.out; omega)
  have HML := Lib.hid hml
  clear hml
  go_enter Tryz.func19, Tryz.ntmps19
  go_wp2_with fail
  go_loopw [5, 6, 16] (fun u5 u6 u16 wr => ∃ j : Nat, j ≤ n ∧ u6 = .int .i64 j ∧ u16 = .int .i64 j ∧ Hid (RowOf 24 2 frC wr (w.heap.size + 1) u5 ((L.take j).map N)) ∧ Hid (Loc w [(w.heap.size, 27, #[.int .i64 0, .string ⟨#[]⟩, .string ⟨#[]⟩, .string ⟨#[]⟩, .bool false, .int .i64 0, .int .i64 0, .int .i64 0, .slice none 0 0])] wr)) (fun _ _ u _ => n - (intOf u).toNat)
  case atStart => exact ⟨0, by omega, rfl, rfl, Lib.hid (RowOf.nil _ _), HL0⟩
  case round =>
    clear HL0
    obtain ⟨j, hj, rfl, rfl, HO, HL⟩ := hrel
    by_cases hlt : j < n
    · have hlz : (j : Int) < (n : Int) := by omega
      obtain ⟨b, o, ra, rr, rl, tn, rfl, htn, hcl⟩ := HC.out j hlt
      have HTN := Lib.hid htn
      have hml := HML.out j
      have e0 : wr.cell? ⟨b, o + j * 12, none⟩ = some (.int .i64 (ra : Int)) := hcl wr HL.out.bel 0 (by decide)
      have e1 : wr.cell? ⟨b, o + j * 12 + 1, none⟩ = some (.int .i64 (rr : Int)) := hcl wr HL.out.bel 1 (by decide)
      have e2 : wr.cell? ⟨b, o + j * 12 + 2, none⟩ = some (.int .i64 (rl : Int)) := hcl wr HL.out.bel 2 (by decide)
      have e3 : wr.cell? ⟨b, o + j * 12 + 3, none⟩ = some (.int .i64 1) := hcl wr HL.out.bel 3 (by decide)
      have e4 : wr.cell? ⟨b, o + j * 12 + 4, none⟩ = some (.string tn) := hcl wr HL.out.bel 4 (by decide)
      have e5 : wr.cell? ⟨b, o + j * 12 + 5, none⟩ = some (.string ⟨#[49]⟩) := hcl wr HL.out.bel 5 (by decide)
      have e6 : wr.cell? ⟨b, o + j * 12 + 6, none⟩ = some (.string ⟨#[]⟩) := hcl wr HL.out.bel 6 (by decide)
      have e7 : wr.cell? ⟨b, o + j * 12 + 7, none⟩ = some (.bool false) := hcl wr HL.out.bel 7 (by decide)
      have e8 : wr.cell? ⟨b, o + j * 12 + 8, none⟩ = some (.int .i64 0) := hcl wr HL.out.bel 8 (by decide)
      have e9 : wr.cell? ⟨b, o + j * 12 + 9, none⟩ = some (.int .i64 0) := hcl wr HL.out.bel 9 (by decide)
      have e10 : wr.cell? ⟨b, o + j * 12 + 10, none⟩ = some (.int .i64 0) := hcl wr HL.out.bel 10 (by decide)
      have e11 : wr.cell? ⟨b, o + j * 12 + 11, none⟩ = some (.slice none 0 0) := hcl wr HL.out.bel 11 (by decide)
      clear hcl htn
      have HB0 := Lib.hid (HL.out.lt (g := w.heap.size) (t := 27) (List.mem_singleton.2 rfl))
      go_upto_region 6 with fail
      have hbk := Blk.new wr 61 #[.int .i64 (ra : Int), .int .i64 (rr : Int), .int .i64 (rl : Int), .int .i64 1, .string tn, .string ⟨#[49]⟩, .string ⟨#[]⟩, .bool false, .int .i64 0, .int .i64 0, .int .i64 0, .slice none 0 0]
      have HLA := Lib.hid (HL.out.alloc0 (.cells #[.int .i64 (ra : Int), .int .i64 (rr : Int), .int .i64 (rl : Int), .int .i64 1, .string tn, .string ⟨#[49]⟩, .string ⟨#[]⟩, .bool false, .int .i64 0, .int .i64 0, .int .i64 0, .slice none 0 0] 61))
      have HOA := Lib.hid (RowOf.alloc HO.out (.cells #[.int .i64 (ra : Int), .int .i64 (rr : Int), .int .i64 (rl : Int), .int .i64 1, .string tn, .string ⟨#[49]⟩, .string ⟨#[]⟩, .bool false, .int .i64 0, .int .i64 0, .int .i64 0, .slice none 0 0] 61))
      have HBA := Lib.hid (show w.heap.size + 1 ≤ (wr.alloc (.cells #[.int .i64 (ra : Int), .int .i64 (rr : Int), .int .i64 (rl : Int), .int .i64 1, .string tn, .string ⟨#[49]⟩, .string ⟨#[]⟩, .bool false, .int .i64 0, .int .i64 0, .int .i64 0, .slice none 0 0] 61)).heap.size from by simp; have := HB0.out; omega)
      clear e0 e1 e2 e3 e4 e5 e6 e7 e8 e9 e10 e11 HL HO HB0
      revert hbk HLA HOA HBA
      generalize wr.alloc (.cells #[.int .i64 (ra : Int), .int .i64 (rr : Int), .int .i64 (rl : Int), .int .i64 1, .string tn, .string ⟨#[49]⟩, .string ⟨#[]⟩, .bool false, .int .i64 0, .int .i64 0, .int .i64 0, .slice none 0 0] 61) = W1
      intro hbk HLA HOA HBA
      have f0 : W1.cell? ⟨wr.heap.size, 0, none⟩ = some (.int .i64 (ra : Int)) := hbk.cell 0
      have f1 : W1.cell? ⟨wr.heap.size, 1, none⟩ = some (.int .i64 (rr : Int)) := hbk.cell 1
      have f2 : W1.cell? ⟨wr.heap.size, 2, none⟩ = some (.int .i64 (rl : Int)) := hbk.cell 2
      have f3 : W1.cell? ⟨wr.heap.size, 3, none⟩ = some (.int .i64 1) := hbk.cell 3
      have f4 : W1.cell? ⟨wr.heap.size, 4, none⟩ = some (.string tn) := hbk.cell 4
      have f5 : W1.cell? ⟨wr.heap.size, 5, none⟩ = some (.string ⟨#[49]⟩) := hbk.cell 5
      have f6 : W1.cell? ⟨wr.heap.size, 6, none⟩ = some (.string ⟨#[]⟩) := hbk.cell 6
      have f7 : W1.cell? ⟨wr.heap.size, 7, none⟩ = some (.bool false) := hbk.cell 7
      have f8 : W1.cell? ⟨wr.heap.size, 8, none⟩ = some (.int .i64 0) := hbk.cell 8
      have f9 : W1.cell? ⟨wr.heap.size, 9, none⟩ = some (.int .i64 0) := hbk.cell 9
      have f10 : W1.cell? ⟨wr.heap.size, 10, none⟩ = some (.int .i64 0) := hbk.cell 10
      have f11 : W1.cell? ⟨wr.heap.size, 11, none⟩ = some (.slice none 0 0) := hbk.cell 11
      go_wp2_with (at_builtin; go_loud (refine wp_row1 94 24 2 32 frC _ Tryz.underlying94 fr_info rfl (by decide) fr_one rfl _ _ rfl (w.heap.size + 1) _ _ rfl HOA.out (N L[j]!) _ ?_ rfl (by omega) (by unfold maxLen; omega) HBA.out ?_); (rw [HTN.out]; rfl); intro v3 w3 ho hb hg; have x3 : w3.cell? ⟨wr.heap.size, 3, none⟩ = some (.int .i64 1) := (Blk.grown (hbk.alloc _) hg (RowOf.alloc HOA.out _) (by decide)).cell 3; have HO3 := Lib.hid ho; have HL3 := Lib.hid (HLA.out.stepB' hb (by omega) (fun x hx => by rw [List.mem_singleton.1 hx]; exact Nat.lt_succ_self _)); clear ho hb hg)
      go_roundw
      case rel => exact ⟨j + 1, by omega, by go_num, by go_num, Lib.hid (by rw [HNM.out j hlt]; exact HO3.out), HL3⟩
      case measure => simp [intOf]; omega
    · have hlz : ¬ (j : Int) < (n : Int) := by omega
      obtain rfl : j = n := by omega
      have hO := HO.out
      rw [HEN.out] at hO
      have HO := Lib.hid hO
      clear hO HC HNM HML
      have HZ := Lib.hid (HL.out.blk (g := w.heap.size) (t := 27) (List.mem_singleton.2 rfl))
      rcases hh with rfl | rfl
      · obtain ⟨A5, c5, h5⟩ := (RowOf.reads HO.out (fun x => (fr_one x).1)).shape
        rw [List.length_map, HHL.out] at h5
        subst h5
        rcases (show ((j : Int) == 0) = true ∨ ((j : Int) == 0) = false by cases ((j : Int) == 0) <;> simp) with hb0 | hb0
        all_goals
          obtain ⟨t0, ht0⟩ : ∃ t, t = nt 0 := ⟨_, rfl⟩
          have HT0 := Lib.hid ht0
          have HOF := Lib.hid (show Calls Tryz.prog 7 #[.int .i64 0] wr fun e w' => e = .returned (.agg #[.string t0, .string ⟨#[49]⟩]) ∧ Below wr.heap.size wr w' from by rw [ht0]; exact of_t 0 wr (by decide) (Lib.tabBelow_of_tabIs HPT.out wr HL.out.bel))
          clear ht0
          go_wp2_with (go_at_call 7; (with_reducible refine HOF.out.mono ?_); rintro e w1 ⟨rfl, hb⟩; have HL1 := Lib.hid (HL.out.step hb); have HO1 := Lib.hid (RowOf.later HO.out hb); clear hb)
          have hRD := RowOf.reads HO1.out (fun x => (fr_one x).1)
          have HRD := Lib.hid hRD
          obtain ⟨A5', c5', h5, -, -, h5c⟩ := hRD
          injection h5 with h5 h5b h5d
          subst h5 h5d
          clear h5b
          have HCC := Lib.hid (show ∀ q, q < j → ∃ b o tn, A5 = some ⟨b, o, none⟩ ∧ tn = nt (N L[q]!) ∧ ∀ W, Below w1.heap.size w1 W → W.cell? ⟨b, o + q * 2, none⟩ = some (.string tn) ∧ W.cell? ⟨b, o + q * 2 + 1, none⟩ = some (.string ⟨#[49]⟩) from fun q hq => by
            have hq' : q < L.length := by rw [HHL.out]; exact hq
            obtain ⟨b, o, e4, hb, hc⟩ := h5c (by rw [List.length_map]; omega)
            refine ⟨b, o, _, e4, rfl, fun W hW => ⟨(hW.cell (by exact hb)).trans ?_, (hW.cell (by exact hb)).trans ?_⟩⟩
            · have := hc q (by rw [List.length_map]; exact hq') 0 (by decide)
              rw [List.getElem_map, ← getElem!_pos L q hq', Nat.add_zero] at this
              exact this
            · have := hc q (by rw [List.length_map]; exact hq') 1 (by decide)
              rw [List.getElem_map, ← getElem!_pos L q hq', ← Nat.add_assoc] at this
              exact this)
          have HL2 := Lib.hid (HL1.out.alloc' (g := w1.heap.size) rfl 24 #[.string t0, .string ⟨#[49]⟩])
          have HWW := Lib.hid (show w.heap.size < w1.heap.size from HL1.out.lt (g := w.heap.size) (t := 27) (List.mem_singleton.2 rfl))
          have HB2 := Lib.hid ((Below.refl w1.heap.size w1).alloc (Nat.le_refl _) (.cells #[.string t0, .string ⟨#[49]⟩] 24))
          clear h5c HRD HL HL1 HOF HO1 HO HZ
          go_loopw [76] (fun u76 wr => ∃ (q : Nat) (ts : ByteArray), q ≤ j ∧ u76 = .int .i64 q ∧ ts = nt (Pv.sm N (L.take q)) ∧ Hid (Loc w [(w1.heap.size, 24, #[.string ts, .string ⟨#[49]⟩]), (w.heap.size, 27, #[.int .i64 0, .string ⟨#[]⟩, .string ⟨#[]⟩, .string ⟨#[]⟩, .bool false, .int .i64 0, .int .i64 0, .int .i64 0, .slice none 0 0])] wr) ∧ Hid (Below w1.heap.size w1 wr)) (fun u _ => j - (intOf u).toNat)
          case atStart => exact ⟨0, t0, by omega, rfl, HT0.out, HL2, HB2⟩
          case round =>
            clear HL2 HB2
            obtain ⟨q, ts, hq, rfl, hts, HL, HB⟩ := hrel
            have bs := HL.out.blk (g := w1.heap.size) (t := 24) (List.mem_cons_self ..)
            have HBS := Lib.hid bs
            obtain ⟨x0, x1, y0, y1⟩ := bs.two
            clear bs
            by_cases hqt : q < j
            · have hqz : (q : Int) < (j : Int) := by omega
              obtain ⟨b, o, tn, rfl, htn, hcl⟩ := HCC.out q hqt
              obtain ⟨v0, v1⟩ := hcl wr HB.out
              have hs1 := HSM.out q
              have hs2 := HNB.out q hqt
              obtain ⟨tm, htm⟩ : ∃ tm, tm = nt (Pv.sm N (L.take (q + 1))) := ⟨_, rfl⟩
              have HTM := Lib.hid htm
              have HAD := Lib.hid (show ∀ W, Below wr.heap.size wr W → Calls Tryz.prog 8 #[.agg #[.string ts, .string ⟨#[49]⟩], .agg #[.string tn, .string ⟨#[49]⟩]] W fun e w' => e = .returned (.tuple #[.agg #[.string tm, .string ⟨#[49]⟩], .int .i64 0]) ∧ Below W.heap.size W w' from fun W hW => by
                rw [hts, htn, htm, HST.out q hqt]
                exact add_nat _ _ W (by omega) (by omega) (Lib.tabBelow_of_tabIs HPT.out W (HL.out.bel.trans (hW.mono HL.out.bel.size))))
              clear hcl htm hts htn
              go_upto_region 24 with fail
              have HLA := Lib.hid (HL.out.alloc0 (.cells #[.string tn, .string ⟨#[49]⟩] 24))
              have hbA : Below wr.heap.size wr (wr.alloc (.cells #[.string tn, .string ⟨#[49]⟩] 24)) := (Below.refl _ _).alloc (Nat.le_refl _) _
              have HBA := Lib.hid hbA
              have p0 : (wr.alloc (.cells #[.string tn, .string ⟨#[49]⟩] 24)).cell? ⟨wr.heap.size, 0, none⟩ = some (.string tn) := (Blk.new wr 24 #[.string tn, .string ⟨#[49]⟩]).cell 0
              have p1 : (wr.alloc (.cells #[.string tn, .string ⟨#[49]⟩] 24)).cell? ⟨wr.heap.size, 1, none⟩ = some (.string ⟨#[49]⟩) := (Blk.new wr 24 #[.string tn, .string ⟨#[49]⟩]).cell 1
              have HBB := Lib.hid (HB.out.trans (hbA.mono HB.out.size))
              clear x0 x1 y0 y1 v0 v1 hbA
              revert HLA HBA p0 p1 HBB
              generalize wr.alloc (.cells #[.string tn, .string ⟨#[49]⟩] 24) = W1
              intro HLA HBA p0 p1 HBB
              obtain ⟨x0, x1, y0, y1⟩ := (HLA.out.blk (g := w1.heap.size) (t := 24) (List.mem_cons_self ..)).two
              go_wp2_with (go_at_call 8; (with_reducible refine (HAD.out _ HBA.out).mono ?_); go_loud (rintro e w5 ⟨rfl, hb⟩); go_loud (have HL5 := Lib.hid (HLA.out.step hb)); go_loud (have HB5 := Lib.hid (HBB.out.trans (hb.mono HBB.out.size))); go_loud (clear hb x0 x1 y0 y1); go_loud (obtain ⟨x0, x1, y0, y1⟩ := (HL5.out.blk (g := w1.heap.size) (t := 24) (List.mem_cons_self ..)).two))
              go_roundw
              case rel => exact ⟨q + 1, tm, by omega, by go_num, HTM.out, Lib.hid (HL5.out.set2 (fun x hx => by rw [List.mem_singleton.1 hx]; exact Nat.ne_of_lt HWW.out) _ _), Lib.hid (below_two HB5.out (Nat.le_refl _) _ _)⟩
              case measure => simp [intOf]; omega
            · have hqz : ¬ (q : Int) < (j : Int) := by omega
              obtain rfl : q = j := by omega
              rw [HEN.out] at hts
              have HTS := Lib.hid hts
              have hs1 := HSM.out q
              rw [HEN.out] at hs1
              have HNU := Lib.hid (show Calls Tryz.prog 44 #[.agg #[.string ts, .string ⟨#[49]⟩]] wr fun e w' => e = .returned (.agg #[.int .i64 1, .string ts, .string ⟨#[49]⟩, .string ⟨#[]⟩, .bool false, .int .i64 0, .int .i64 0, .int .i64 0, .slice none 0 0]) ∧ Below wr.heap.size wr w' from by rw [hts]; exact num_nat _ wr (HE.out.below HL.out.bel) (by omega))
              clear hts
              go_wp2_with (go_at_call 44; (with_reducible refine HNU.out.mono ?_); rintro e w6 ⟨rfl, hb⟩; have HL6 := Lib.hid (HL.out.step hb); have bz := HL6.out.blk (g := w.heap.size) (t := 27) (cs := #[.int .i64 0, .string ⟨#[]⟩, .string ⟨#[]⟩, .string ⟨#[]⟩, .bool false, .int .i64 0, .int .i64 0, .int .i64 0, .slice none 0 0]) (List.mem_cons_of_mem _ (List.mem_singleton.2 rfl)); obtain ⟨z0, z1, z2, z3, z4, z5, z6, z7, z8⟩ := bz.nine; obtain ⟨f0, f1, f2, f3, f4, f5, f6, f7, f8⟩ := bz.ninef; obtain ⟨bs, c0, c1, c2, c3, c4, c5, c6, c7, c8⟩ := bz.nine_set (.int .i64 1) (.string ts) (.string ⟨#[49]⟩) (.string ⟨#[]⟩) (.bool false) (.int .i64 0) (.int .i64 0) (.int .i64 0) (.slice none 0 0); have BS := Lib.hid bs; clear bz bs hb)
              obtain ⟨q0, q1, q2, q3, q4, q5, q6, q7, q8⟩ := BS.out.nine
              refine bodyPost_ret (v := .agg #[.int .i64 1, .string ts, .string ⟨#[49]⟩, .string ⟨#[]⟩, .bool false, .int .i64 0, .int .i64 0, .int .i64 0, .slice none 0 0]) (by simp [results, Tryz.results19, go_sem, q0, q1, q2, q3, q4, q5, q6, q7, q8]) rfl ⟨?_, below_nine HL6.out.bel (Nat.le_refl _) _ _ _ _ _ _ _ _ _⟩
              rw [HTS.out]
              unfold resN
              rw [if_neg (by decide)]
              rfl
      · have HW := Lib.hid (whole_t j wr (by omega) (Lib.tabBelow_of_tabIs HPT.out wr HL.out.bel))
        obtain ⟨t, ht⟩ : ∃ t, t = nt j := ⟨_, rfl⟩
        have HT := Lib.hid ht
        have HW := Lib.hid (show Calls Tryz.prog 16 #[.int .i64 (j : Int)] wr fun e w' => e = .returned (.agg #[.int .i64 1, .string t, .string ⟨#[49]⟩, .string ⟨#[]⟩, .bool false, .int .i64 0, .int .i64 0, .int .i64 0, .slice none 0 0]) ∧ Below wr.heap.size wr w' from by rw [ht]; exact HW.out)
        clear ht
        go_wp2_with (go_at_call 16; (with_reducible refine HW.out.mono ?_); rintro e w1 ⟨rfl, hb⟩; have HL1 := Lib.hid (HL.out.step hb); have bz := HL1.out.blk (g := w.heap.size) (t := 27) (cs := #[.int .i64 0, .string ⟨#[]⟩, .string ⟨#[]⟩, .string ⟨#[]⟩, .bool false, .int .i64 0, .int .i64 0, .int .i64 0, .slice none 0 0]) (List.mem_singleton.2 rfl); obtain ⟨z0, z1, z2, z3, z4, z5, z6, z7, z8⟩ := bz.nine; obtain ⟨f0, f1, f2, f3, f4, f5, f6, f7, f8⟩ := bz.ninef; obtain ⟨bs, c0, c1, c2, c3, c4, c5, c6, c7, c8⟩ := bz.nine_set (.int .i64 1) (.string t) (.string ⟨#[49]⟩) (.string ⟨#[]⟩) (.bool false) (.int .i64 0) (.int .i64 0) (.int .i64 0) (.slice none 0 0); have BS := Lib.hid bs; clear bz bs hb)
        obtain ⟨q0, q1, q2, q3, q4, q5, q6, q7, q8⟩ := BS.out.nine
        refine bodyPost_ret (v := .agg #[.int .i64 1, .string t, .string ⟨#[49]⟩, .string ⟨#[]⟩, .bool false, .int .i64 0, .int .i64 0, .int .i64 0, .slice none 0 0]) (by simp [results, Tryz.results19, go_sem, q0, q1, q2, q3, q4, q5, q6, q7, q8]) rfl ⟨?_, below_nine HL1.out.bel (Nat.le_refl _) _ _ _ _ _ _ _ _ _⟩
        rw [HT.out]
        unfold resN
        rw [if_pos rfl, HHL.out]
        rfl
end Go.Proofs.YtmapagbmihpbmaaGreatDoor
