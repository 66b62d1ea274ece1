/- The law's table of small numbers. -/
import Derived.Test.YtllhefjblipddaaGreatDoorGao
import Derived.Test.YtllhefjblipddaaGreatDoorMod
set_option linter.unusedSimpArgs false
set_option linter.unusedVariables false
namespace Go.Proofs.YtllhefjblipddaaGreatDoor
open Go.RowKit

/-- An item is put: what stays. -/
theorem val_put {w W w5 : World} {L : List (Nat × TypeId × Array Value)} {z : Nat} {x0 x1 x2 x3 x4 x5 x6 x7 rv nv : Value} {l' : List Vl} {B : Nat} (hL : Loc w ((z, 27, #[x0, x1, x2, x3, x4, x5, x6, x7, rv]) :: L) W) (hne : ∀ x ∈ L, x.1 ≠ z) (hlt : ∀ x ∈ L, x.1 < B) (hzB : z < B) (hB : B ≤ W.heap.size) (hb : Below B W w5) (ho : RowOf 27 9 csV w5 B nv l') :
    (w5.cell? ⟨z, 8, none⟩ = some rv ∧ w5.frozen? ⟨z, 8, none⟩ = false) ∧ Loc w ((z, 27, #[x0, x1, x2, x3, x4, x5, x6, x7, nv]) :: L) (w5.setCell ⟨z, 8, none⟩ nv) ∧ RowOf 27 9 csV (w5.setCell ⟨z, 8, none⟩ nv) B nv l' ∧ B ≤ (w5.setCell ⟨z, 8, none⟩ nv).heap.size := by
  have hw : w.heap.size ≤ B := by
    have := (hL.2 _ (List.mem_cons_self ..)).1
    exact Nat.le_of_lt (Nat.lt_of_le_of_lt this hzB)
  have hL5 := hL.stepB' hb hw (fun x hx => by
    rcases List.mem_cons.1 hx with rfl | hx
    · exact hzB
    · exact hlt x hx)
  have hz := hL5.blk (g := z) (t := 27) (List.mem_cons_self ..)
  refine ⟨⟨hz.cell 8, hz.frozen 8⟩, ?_, RowOf.far ho (fun k hk e => by
    have h1 := (RowOf.lt ho k hk).1
    have e : k = z := e
    omega) nv, ?_⟩
  · have := hL5.set1 (i := 8) hne nv
    exact this
  · have h1 := hb.size
    simp only [World.setCell, Array.size_modify]
    omega
structure MV (w W : World) (L : List (Nat × TypeId × Array Value)) (B : Nat) (rv : Value) (l : List Vl) : Prop where
  loc : Loc w L W
  row : RowOf 27 9 csV W B rv l
  base : B ≤ W.heap.size
section
variable {w W W' : World} {L : List (Nat × TypeId × Array Value)} {B : Nat} {rv : Value} {l : List Vl}
theorem MV.step (h : MV w W L B rv l) (hb : Below W.heap.size W W') : MV w W' L B rv l := ⟨h.loc.step hb, RowOf.later h.row hb, Nat.le_trans h.base hb.size⟩
theorem MV.drew (h : MV w W L B rv l) : MV w W.drew L B rv l := ⟨h.loc.drew, RowOf.drew h.row, h.base⟩
theorem MV.alloc (h : MV w W L B rv l) (o : Obj) : MV w (W.alloc o) L B rv l := h.step ((Below.refl _ _).alloc (Nat.le_refl _) _)
end
set_option maxRecDepth 100000 in
set_option maxHeartbeats 1000000 in
theorem whole_h (k : Nat) (w : World) (he : VEnv w) (hk : k ≤ 1000) : Calls Tryz.prog 8 #[.int .i64 (k : Int)] w fun e w' => e = .returned (nV k).v ∧ Below w.heap.size w w' := by
  show Calls _ _ _ w fun e w' => e = .returned (.agg #[.int .i64 1, .string (nt k), .string ⟨#[49]⟩, .string ⟨#[]⟩, .bool false, .int .i64 0, .int .i64 0, .int .i64 0, .slice none 0 0]) ∧ _
  have HW := Lib.hid (show ∀ W, Below w.heap.size w W → Calls Tryz.prog 12 #[.int .i64 (k : Int)] W fun e w' => e = .returned (.agg #[.int .i64 1, .string (nt k), .string ⟨#[49]⟩, .string ⟨#[]⟩, .bool false, .int .i64 0, .int .i64 0, .int .i64 0, .slice none 0 0]) ∧ Below W.heap.size W w' from fun W hW => whole_t k W hk (Lib.tabBelow_of_tabIs he.pw W hW))
  obtain ⟨t, ht⟩ : ∃ t, t = nt k := ⟨_, rfl⟩
  rw [← ht] at HW
  rw [← ht]
  clear ht he
  have HL0 := Lib.hid ((Loc.start w).alloc' rfl 27 #[.int .i64 0, .string ⟨#[]⟩, .string ⟨#[]⟩, .string ⟨#[]⟩, .bool false, .int .i64 0, .int .i64 0, .int .i64 0, .slice none 0 0])
  go_enter Tryz.func8, Tryz.ntmps8
  go_wp2_with (go_at_call 12; (with_reducible refine (HW.out _ HL0.out.bel).mono ?_); rintro e w1 ⟨rfl, hb⟩; have HL1 := Lib.hid (HL0.out.step hb); have bz := HL1.out.blk (g := w.heap.size) (t := 27) (List.mem_cons_self ..); obtain ⟨z0, z1, z2, z3, z4, z5, z6, z7, z8⟩ := bz.nine; obtain ⟨f0, f1, f2, f3, f4, f5, f6, f7, f8⟩ := bz.ninef; have BS := Lib.hid (bz.nine_set (.int .i64 1) (.string t) (.string ⟨#[49]⟩) (.string ⟨#[]⟩) (.bool false) (.int .i64 0) (.int .i64 0) (.int .i64 0) (.slice none 0 0)).1; clear bz hb)
  obtain ⟨q0, q1, q2, q3, q4, q5, q6, q7, q8⟩ := BS.out.nine
  refine bodyPost_ret (v := .agg #[.int .i64 1, .string t, .string ⟨#[49]⟩, .string ⟨#[]⟩, .bool false, .int .i64 0, .int .i64 0, .int .i64 0, .slice none 0 0]) (by simp [results, Tryz.results8, go_sem, q0, q1, q2, q3, q4, q5, q6, q7, q8]) rfl ⟨rfl, ?_⟩
  exact below_nine HL1.out.bel (Nat.le_refl _) _ _ _ _ _ _ _ _ _
/-- The number at a place of the table. -/
def zAt (Z : List Int) (i : Nat) : Nat := if h : i < Z.length then (Z[i] % 7).toNat else i
def tabU (Z : List Int) (T : Nat) : List Vl := (List.range T).map fun i => nV (zAt Z i)
theorem zAt_le (Z : List Int) (i : Nat) (h : i ≤ 30) : zAt Z i ≤ 1000 := by
  unfold zAt
  split
  · have := Int.emod_lt_of_pos (Z[i]) (show (0 : Int) < 7 by decide)
    omega
  · omega
theorem tabU_good (Z : List Int) (T : Nat) (h : T ≤ 31) : GoodI (tabU Z T) := fun u hu => by
  obtain ⟨i, hi, rfl⟩ := List.mem_map.1 hu
  have hi := List.mem_range.1 hi
  exact nV_good _ (zAt_le Z i (by omega))
theorem tabU_len (Z : List Int) (T : Nat) : (tabU Z T).length = T := by simp [tabU]
theorem tabU_snoc (Z : List Int) (i : Nat) : tabU Z (i + 1) = tabU Z i ++ [nV (zAt Z i)] := by
  unfold tabU
  rw [List.range_succ, List.map_append]
  rfl
set_option maxRecDepth 100000 in
set_option maxHeartbeats 8000000 in
theorem table_h (A : Option Addr) (n c : Nat) (Z : List Int) (w : World) (C R : Nat) (he : VEnv w) (hZ : Reads 1 (fun z : Int => [Value.int .i64 z]) w (.slice A n c) Z) (hn : n ≤ 9223372036854775807) (hx : ∀ x ∈ Z, -9223372036854775808 ≤ x ∧ x ≤ 9223372036854775807) (c1 : 1 ≤ C) (c2 : C ≤ 4) (hR : R = max 1 (min n 30 / C)) :
    Calls Tryz.prog 5 #[.slice A n c, .int .i64 (C : Int)] w fun e w' => ∃ u, e = .returned u.v ∧ AR w' u R C (tabU Z (R * C)) ∧ Below w.heap.size w w' := by
  have hl : Z.length = n := by
    obtain ⟨A', c', e, -⟩ := hZ
    injection e with e1 e2 e3
    exact e2.symm
  have HZC := Lib.hid (show ∀ i, i < n → ∃ b o x, A = some ⟨b, o, none⟩ ∧ zAt Z i = (x % 7).toNat ∧ (-9223372036854775808 ≤ x ∧ x ≤ 9223372036854775807) ∧ ∀ W, Below w.heap.size w W → W.cell? ⟨b, o + i, none⟩ = some (.int .i64 x) from fun i hi => by
    obtain ⟨A', c', e, -, -, h3⟩ := hZ
    injection e with e1 e2 e3
    obtain ⟨b, o, e4, hb, hc⟩ := h3 (by omega)
    have hi' : i < Z.length := by omega
    refine ⟨b, o, Z[i], e1.trans e4, by unfold zAt; rw [dif_pos hi'], hx _ (List.getElem_mem _), fun W hW => (hW.cell (by exact hb)).trans ?_⟩
    have := hc i hi' 0 (by decide)
    rw [show o + (i * 1 + 0) = o + i by omega] at this
    rw [this]
    rfl)
  have HXO := Lib.hid (show ∀ i, ¬ i < n → zAt Z i = i from fun i hi => by unfold zAt; rw [dif_neg (by omega)])
  have hr1 : 1 ≤ R := by omega
  have hT : R * C ≤ 30 ∨ R = 1 := by
    by_cases h : R = 1
    · exact .inr h
    · left
      have : R = min n 30 / C := by omega
      rw [this]
      have := Nat.div_mul_le_self (min n 30) C
      omega
  have hr2 : R ≤ 30 := by
    have : min n 30 / C ≤ min n 30 := Nat.div_le_self _ _
    omega
  obtain ⟨T, hTT⟩ : ∃ T, T = R * C := ⟨_, rfl⟩
  have hT2 : T ≤ 30 := by
    rcases hT with h | h
    · omega
    · rw [hTT, h]
      omega
  have hT1 : 1 ≤ T := by rw [hTT]; exact Nat.mul_pos hr1 c1
  rw [← hTT]
  have HTT := Lib.hid hTT
  have hm : IntKind.i64.wrap ((R : Int) * (C : Int)) = (T : Int) := by
    have e : (R : Int) * (C : Int) = (T : Int) := by rw [hTT, Int.natCast_mul]
    rw [e]
    exact IntWalk.i64_in _ (by omega)
  have HRR := Lib.hid (show (R : Int) = max 1 (min (n : Int) 30 / (C : Int)) from by
    rw [hR]
    have e1 : ((min n 30 / C : Nat) : Int) = min (n : Int) 30 / (C : Int) := by
      rw [Int.natCast_ediv]
      congr 1
      omega
    rw [← e1]
    omega)
  have HWQ := Lib.hid (show ∀ (k : Nat) t W, Below w.heap.size w W → k ≤ 1000 → t = nt k → Calls Tryz.prog 8 #[.int .i64 (k : Int)] W fun e w' => e = .returned (.agg #[.int .i64 1, .string t, .string ⟨#[49]⟩, .string ⟨#[]⟩, .bool false, .int .i64 0, .int .i64 0, .int .i64 0, .slice none 0 0]) ∧ Below W.heap.size W w' from fun k t W hW h1 h2 => by
    rw [h2]
    exact whole_h k W (he.below hW) h1)
  have HL0 := Lib.hid (((Loc.start w).alloc' rfl 27 #[.int .i64 0, .string ⟨#[]⟩, .string ⟨#[]⟩, .string ⟨#[]⟩, .bool false, .int .i64 0, .int .i64 0, .int .i64 0, .slice none 0 0]).alloc' (g := w.heap.size + 1) (by simp) 27 #[.int .i64 5, .string ⟨#[]⟩, .string ⟨#[]⟩, .string ⟨#[]⟩, .bool false, .int .i64 0, .int .i64 (R : Int), .int .i64 (C : Int), .slice none 0 0])
  have HS0 := Lib.hid (show w.heap.size + 2 ≤ ((w.alloc (.cells #[.int .i64 0, .string ⟨#[]⟩, .string ⟨#[]⟩, .string ⟨#[]⟩, .bool false, .int .i64 0, .int .i64 0, .int .i64 0, .slice none 0 0] 27)).alloc (.cells #[.int .i64 5, .string ⟨#[]⟩, .string ⟨#[]⟩, .string ⟨#[]⟩, .bool false, .int .i64 0, .int .i64 (R : Int), .int .i64 (C : Int), .slice none 0 0] 27)).heap.size from by simp)
  clear hZ hl hx he hR hTT hT
  go_enter Tryz.func5, Tryz.ntmps5
  go_upto_region 1 with fail
  go_cut [5] (fun u5 wx => u5 = .pointer (some ⟨w.heap.size + 1, 0, none⟩) ∧ Hid (Loc w [(w.heap.size + 1, 27, #[.int .i64 5, .string ⟨#[]⟩, .string ⟨#[]⟩, .string ⟨#[]⟩, .bool false, .int .i64 0, .int .i64 (R : Int), .int .i64 (C : Int), .slice none 0 0]), (w.heap.size, 27, #[.int .i64 0, .string ⟨#[]⟩, .string ⟨#[]⟩, .string ⟨#[]⟩, .bool false, .int .i64 0, .int .i64 0, .int .i64 0, .slice none 0 0])] wx) ∧ Hid (w.heap.size + 2 ≤ wx.heap.size))
  case first =>
    have cz : ¬ C = 0 := by omega
    have czi : ¬ (C : Int) = 0 := by omega
    clear HWQ HZC HXO
    go_wp2_with fail
    go_meet
    have hrr := HRR.out
    rw [hrr] at HL0 HS0 ⊢
    exact ⟨rfl, HL0, HS0⟩
  case rest =>
    clear HL0 HS0
    obtain ⟨rfl, HL0, HS0⟩ := hcut
    have t0 := (HL0.out.blk (g := w.heap.size + 1) (t := 27) (List.mem_cons_self ..)).cell 6
    simp only [List.getElem?_toArray, List.getElem?_cons_succ, List.getElem?_cons_zero] at t0
    go_wp2_with fail
    clear t0
    go_loopw [20] (fun u20 wr => ∃ (i : Nat) (v : Value), i ≤ T ∧ u20 = .int .i64 (i : Int) ∧ Hid (Loc w [(w.heap.size + 1, 27, #[.int .i64 5, .string ⟨#[]⟩, .string ⟨#[]⟩, .string ⟨#[]⟩, .bool false, .int .i64 0, .int .i64 (R : Int), .int .i64 (C : Int), v]), (w.heap.size, 27, #[.int .i64 0, .string ⟨#[]⟩, .string ⟨#[]⟩, .string ⟨#[]⟩, .bool false, .int .i64 0, .int .i64 0, .int .i64 0, .slice none 0 0])] wr) ∧ Hid (RowOf 27 9 csV wr (w.heap.size + 2) v (tabU Z i)) ∧ Hid (w.heap.size + 2 ≤ wr.heap.size)) (fun u _ => T - (intOf u).toNat)
    case atStart => exact ⟨0, .slice none 0 0, by omega, rfl, HL0, Lib.hid (RowOf.nil _ _), HS0⟩
    case round =>
      clear HL0 HS0
      obtain ⟨i, v, hi, rfl, HL, HO, HS⟩ := hrel
      by_cases hlt : i < T
      · have hlz : (i : Int) < (T : Int) := by omega
        have i1 : IntKind.i64.wrap ((i : Int) + 1) = (i : Int) + 1 := IntWalk.i64_in _ (by omega)
        have i0 : 0 ≤ (i : Int) := by omega
        go_upto_region 6 with fail
        obtain ⟨bb, hbb⟩ : ∃ bb : Bool, bb = true ↔ i < n := ⟨decide (i < n), by simp⟩
        have HBB := Lib.hid hbb
        clear hbb
        go_cut [27] (fun u27 wx => u27 = .bool bb ∧ wr = wx)
        case first =>
          by_cases hin : i < n
          · have hinz : (i : Int) < (n : Int) := by omega
            have e : bb = true := HBB.out.2 hin
            go_wp2_with fail
            go_meet
            exact ⟨by rw [e], rfl⟩
          · have hinz : ¬ (i : Int) < (n : Int) := by omega
            have e : bb = false := by rw [Bool.eq_false_iff]; exact fun h => hin (HBB.out.1 h)
            go_wp2_with fail
            go_meet
            exact ⟨by rw [e], rfl⟩
        case rest =>
        obtain ⟨rfl, rfl⟩ := hcut
        go_step
        go_cut [7] (fun u7 wx => u7 = .int .i64 ((zAt Z i : Nat) : Int) ∧ wr = wx)
        case first =>
          cases bb
          · have hin : ¬ i < n := fun h => Bool.noConfusion (HBB.out.2 h)
            have hxx := HXO.out i hin
            go_wp2_with fail
            go_meet
            exact ⟨by rw [hxx], rfl⟩
          · have hin : i < n := HBB.out.1 rfl
            obtain ⟨b, o, x, rfl, hz, hxb, hc⟩ := HZC.out i hin
            have c0 := hc wr HL.out.bel
            have HMO := Lib.hid fun W => mod_any x 7 W (by decide) (by decide) hxb
            have h7 : ((zAt Z i : Nat) : Int) = x % 7 := by
              have := Int.emod_nonneg x (show (7 : Int) ≠ 0 by decide)
              rw [hz]
              omega
            have H7 := Lib.hid h7
            clear hc hz h7 hxb
            go_wp2_with (go_at_call 6; (with_reducible refine (HMO.out _).mono ?_); rintro e w9 ⟨rfl, rfl⟩)
            go_meet
            exact ⟨by rw [H7.out], rfl⟩
        case rest =>
          obtain ⟨rfl, rfl⟩ := hcut
          have hk := zAt_le Z i (by omega)
          have hsn := tabU_snoc Z i
          obtain ⟨k, hkk⟩ : ∃ k, k = zAt Z i := ⟨_, rfl⟩
          rw [← hkk] at hk hsn ⊢
          obtain ⟨t, ht⟩ : ∃ t, t = nt k := ⟨_, rfl⟩
          have hnv : nV k = ⟨1, t, ⟨#[49]⟩, ⟨#[]⟩, false, 0, 0, 0, none, 0, 0⟩ := by rw [ht]; rfl
          have hll : (tabU Z i).length = i := tabU_len Z i
          obtain ⟨LL, hLL⟩ : ∃ LL, LL = tabU Z i := ⟨_, rfl⟩
          rw [hnv] at hsn
          rw [← hLL] at HO hsn hll
          have HSN := Lib.hid hsn
          have HLL := Lib.hid hll
          have HWH := Lib.hid fun W hW => HWQ.out k t W hW hk ht
          have HCS := Lib.hid (show (#[.int .i64 1, .string t, .string ⟨#[49]⟩, .string ⟨#[]⟩, .bool false, .int .i64 0, .int .i64 0, .int .i64 0, .slice none 0 0] : Array Value).toList = csV ⟨1, t, ⟨#[49]⟩, ⟨#[]⟩, false, 0, 0, 0, none, 0, 0⟩ from rfl)
          have HX0 := Lib.hid (show MV w wr [(w.heap.size + 1, 27, #[.int .i64 5, .string ⟨#[]⟩, .string ⟨#[]⟩, .string ⟨#[]⟩, .bool false, .int .i64 0, .int .i64 (R : Int), .int .i64 (C : Int), v]), (w.heap.size, 27, #[.int .i64 0, .string ⟨#[]⟩, .string ⟨#[]⟩, .string ⟨#[]⟩, .bool false, .int .i64 0, .int .i64 0, .int .i64 0, .slice none 0 0])] (w.heap.size + 2) v LL from ⟨HL.out, HO.out, HS.out⟩)
          have HS2 := Lib.hid (show ∀ W, MV w W [(w.heap.size + 1, 27, #[.int .i64 5, .string ⟨#[]⟩, .string ⟨#[]⟩, .string ⟨#[]⟩, .bool false, .int .i64 0, .int .i64 (R : Int), .int .i64 (C : Int), v]), (w.heap.size, 27, #[.int .i64 0, .string ⟨#[]⟩, .string ⟨#[]⟩, .string ⟨#[]⟩, .bool false, .int .i64 0, .int .i64 0, .int .i64 0, .slice none 0 0])] (w.heap.size + 2) v LL → W.cell? ⟨w.heap.size + 1, 8, none⟩ = some v from fun W h => (h.loc.blk (g := w.heap.size + 1) (t := 27) (List.mem_cons_self ..)).cell 8)
          have HPT := Lib.hid (show ∀ W W5 nv l', MV w W [(w.heap.size + 1, 27, #[.int .i64 5, .string ⟨#[]⟩, .string ⟨#[]⟩, .string ⟨#[]⟩, .bool false, .int .i64 0, .int .i64 (R : Int), .int .i64 (C : Int), v]), (w.heap.size, 27, #[.int .i64 0, .string ⟨#[]⟩, .string ⟨#[]⟩, .string ⟨#[]⟩, .bool false, .int .i64 0, .int .i64 0, .int .i64 0, .slice none 0 0])] (w.heap.size + 2) v LL → Below (w.heap.size + 2) W W5 → RowOf 27 9 csV W5 (w.heap.size + 2) nv l' → (W5.cell? ⟨w.heap.size + 1, 8, none⟩ = some v ∧ W5.frozen? ⟨w.heap.size + 1, 8, none⟩ = false) ∧ MV w (W5.setCell ⟨w.heap.size + 1, 8, none⟩ nv) [(w.heap.size + 1, 27, #[.int .i64 5, .string ⟨#[]⟩, .string ⟨#[]⟩, .string ⟨#[]⟩, .bool false, .int .i64 0, .int .i64 (R : Int), .int .i64 (C : Int), nv]), (w.heap.size, 27, #[.int .i64 0, .string ⟨#[]⟩, .string ⟨#[]⟩, .string ⟨#[]⟩, .bool false, .int .i64 0, .int .i64 0, .int .i64 0, .slice none 0 0])] (w.heap.size + 2) nv l' from fun W W5 nv l' h hb ho => by
            have hpp := val_put h.loc (fun x hx => by rw [List.mem_singleton.1 hx]; dsimp only; omega) (fun x hx => by rw [List.mem_singleton.1 hx]; dsimp only; omega) (Nat.lt_succ_self _) h.base hb ho
            exact ⟨hpp.1, hpp.2.1, hpp.2.2.1, hpp.2.2.2⟩)
          clear HL HO HS hsn hll hLL hnv ht hkk
          go_upto_region 8 with fail
          refine wp_region_G (S1 := fun _ => True) (S2 := fun W => W.cell? ⟨w.heap.size + 1, 8, none⟩ = some v) (d := 7) (by kernel_rfl) trivial (HS2.out _ HX0.out.drew) (fun hT => ?_)
          refine wpAnyG_take1d (i := 0) (v := ?_) rfl rfl (by kernel_rfl) (by kernel_rfl) (by kernel_rfl) (by kernel_rfl) (fun _ _ _ h => h) (Or.inl ⟨by rfl, ?_⟩) (by assumption) (fun hT => ?_)
          rotate_left
          · intro w hSw
            (try dsimp only at hSw)
            go_simp
            (try with_reducible rfl)
          (try simp only [Act.put, List.setIfInBounds_toArray, List.set_cons_zero, List.set_cons_succ])
          refine wpAnyG_take2d (i := 1) (v := ?_) rfl rfl (by kernel_rfl) (by kernel_rfl) (by kernel_rfl) (by kernel_rfl) (by kernel_rfl) (by kernel_rfl) (fun _ _ _ h => h) (Or.inl ⟨by rfl, ?_⟩) (by assumption) (fun hT => ?_)
          rotate_left
          · intro w hSw
            (try dsimp only at hSw)
            go_simp
            (try with_reducible rfl)
          (try simp only [Act.put, List.setIfInBounds_toArray, List.set_cons_zero, List.set_cons_succ])
          refine wpAnyG_take1d (i := 2) (v := ?_) rfl rfl (by kernel_rfl) (by kernel_rfl) (by kernel_rfl) (by kernel_rfl) (fun _ _ _ h => h) (Or.inl ⟨by rfl, ?_⟩) (by assumption) (fun hT => ?_)
          rotate_left
          · intro w hSw
            (try dsimp only at hSw)
            go_simp
            (try with_reducible rfl)
          (try simp only [Act.put, List.setIfInBounds_toArray, List.set_cons_zero, List.set_cons_succ])
          refine wpAnyG_ready (rs := [3]) (by kernel_rfl) (by simp) ?_
          refine AllG.cons (i := 3) rfl (fun K hK => ?_) AllG.nil
          go_simp
          go_at_call 8
          (with_reducible refine (HWH.out _ (HX0.out.drew).loc.bel).mono ?_)
          rintro e w1 ⟨rfl, hb⟩
          have HX1 := Lib.hid ((HX0.out.drew).step hb)
          clear hb
          refine hK.out _ _ ⟨trivial, .inr (HS2.out _ HX1.out)⟩ (fun hT => ?_)
          clear hK K
          (try simp only [Act.put, List.setIfInBounds_toArray, List.set_cons_zero, List.set_cons_succ])
          refine wpAnyG_ready (rs := [4]) (by kernel_rfl) (by simp) ?_
          refine AllG.cons (i := 4) rfl (fun K hK => ?_) AllG.nil
          go_simp
          refine hK.out _ _ ⟨trivial, .inr (HS2.out _ (HX1.out.alloc _))⟩ (fun hT => ?_)
          clear hK K
          (try simp only [Act.put, List.setIfInBounds_toArray, List.set_cons_zero, List.set_cons_succ])
          refine wpAnyG_ready (rs := [5]) (by kernel_rfl) (by simp) ?_
          refine AllG.cons (i := 5) rfl (fun K hK => ?_) AllG.nil
          refine step_row2 25 27 9 112 csV _ Tryz.underlying25 val_info rfl (by decide) csV_one rfl (.tmp 34) (.tmp 37) rfl (w.heap.size + 2) v LL rfl (HX1.out.alloc _).row ⟨1, t, ⟨#[49]⟩, ⟨#[]⟩, false, 0, 0, 0, none, 0, 0⟩ w1.heap.size _ HCS.out (Blk.new w1 _ _) rfl (by have := HLL.out; omega) (by have := HLL.out; unfold maxLen; omega) (HX1.out.alloc _).base ?_
          intro gx cx w5 ho hb hg hx
          have hpp := HPT.out _ _ _ _ (HX1.out.alloc _) hb ho
          have r2c := hpp.1.1
          have r2f := hpp.1.2
          have HPP := Lib.hid hpp.2
          clear ho hb hg hx hpp
          refine hK.out _ _ ⟨trivial, .inr r2c⟩ (fun hT => ?_)
          clear hK K
          (try simp only [Act.put, List.setIfInBounds_toArray, List.set_cons_zero, List.set_cons_succ])
          refine wpAnyG_take1d (i := 6) (v := ?_) rfl rfl (by kernel_rfl) (by kernel_rfl) (by kernel_rfl) (by kernel_rfl) (fun _ _ _ h => h) (Or.inl ⟨by rfl, ?_⟩) (by assumption) (fun hT => ?_)
          rotate_left
          · intro w hSw
            (try dsimp only at hSw)
            go_simp
            (try with_reducible rfl)
          (try simp only [Act.put, List.setIfInBounds_toArray, List.set_cons_zero, List.set_cons_succ])
          refine wpAnyG_ready (rs := [7]) (by kernel_rfl) (by simp) ?_
          refine AllG.cons (i := 7) rfl (fun K hK => ?_) AllG.nil
          go_simp
          refine hK.out _ _ ⟨trivial, .inl rfl⟩ (fun hT => ?_)
          clear hK K
          (try simp only [Act.put, List.setIfInBounds_toArray, List.set_cons_zero, List.set_cons_succ])
          refine wpAnyG_done (by kernel_rfl) ?_ _
          clear r2c r2f
          go_wp2_with fail
          go_roundw
          case rel => exact ⟨i + 1, _, by omega, by go_num, Lib.hid HPP.out.loc, Lib.hid (by rw [HSN.out]; exact HPP.out.row), Lib.hid HPP.out.base⟩
          case measure => simp [intOf]; omega

      · obtain rfl : i = T := by omega
        have hll : (tabU Z i).length = i := tabU_len Z i
        obtain ⟨g, c', hv, hg, -⟩ := HO.out.form (by omega)
        rw [hll] at hv
        subst hv
        have HRD := Lib.hid (show Reads 9 csV wr (.slice (some ⟨g, 0, none⟩) i c') (tabU Z i) from by
          have h := RowOf.reads HO.out csV_len
          exact h)
        have HB5 := Lib.hid (HL.out.blk (g := w.heap.size + 1) (t := 27) (List.mem_cons_self ..))
        have HB4 := Lib.hid (HL.out.blk (g := w.heap.size) (t := 27) (List.mem_cons_of_mem _ (List.mem_cons_self ..)))
        obtain ⟨x0, x1, x2, x3, x4, x5, x6, x7, x8⟩ := HB5.out.nine
        obtain ⟨z0, z1, z2, z3, z4, z5, z6, z7, z8⟩ := HB4.out.nine
        obtain ⟨f0, f1, f2, f3, f4, f5, f6, f7, f8⟩ := HB4.out.ninef
        go_upto_region 10 with fail
        go_upto_region 99 with fail
        clear f0 f1 f2 f3 f4 f5 f6 f7 f8 z0 z1 z2 z3 z4 z5 z6 z7 z8 x0 x1 x2 x3 x4 x5 x6 x7 x8
        obtain ⟨q0, q1, q2, q3, q4, q5, q6, q7, q8⟩ := (HB4.out.nine_set (.int .i64 5) (.string ⟨#[]⟩) (.string ⟨#[]⟩) (.string ⟨#[]⟩) (.bool false) (.int .i64 0) (.int .i64 (R : Int)) (.int .i64 (C : Int)) (.slice (some ⟨g, 0, none⟩) i c')).1.nine
        have hcn := chg_nine wr w.heap.size (.int .i64 5) (.string ⟨#[]⟩) (.string ⟨#[]⟩) (.string ⟨#[]⟩) (.bool false) (.int .i64 0) (.int .i64 (R : Int)) (.int .i64 (C : Int)) (.slice (some ⟨g, 0, none⟩) i c')
        have hgw : g < wr.heap.size := reads_pos HRD.out (by omega)
        refine bodyPost_ret (v := aV (R : Int) (C : Int) (some ⟨g, 0, none⟩) i c') (by simp [results, Tryz.results5, go_sem, q0, q1, q2, q3, q4, q5, q6, q7, q8]) rfl ⟨arrU R C (some ⟨g, 0, none⟩) i c', rfl, ⟨⟨_, i, c', rfl, HTT.out, reads_same HRD.out hcn.size (hcn.block g hgw (by rw [List.mem_singleton]; omega))⟩, by omega, by omega, by omega, by omega, by rw [← HTT.out]; omega⟩, below_nine HL.out.bel (Nat.le_refl _) _ _ _ _ _ _ _ _ _⟩
end Go.Proofs.YtllhefjblipddaaGreatDoor
