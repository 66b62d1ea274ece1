/- pivot.Make: the records are put into their groups. -/
import Derived.Test.YtmapagbmihpbmaaGreatDoorGan
import Derived.Test.YtmapagbmihpbmaaGreatDoorGam
import Derived.Test.YtmapagbmihpbmaaGreatDoorGaj
set_option linter.unusedSimpArgs false
set_option linter.unusedVariables false
namespace Go.Proofs.YtmapagbmihpbmaaGreatDoor
open Go.RowKit

/-- What Make knows when the groups are empty. -/
structure Mj (w w2 : World) (L0 : List (Nat × TypeId × Array Value)) (tB h1 h2 h3 n m NM B R : Nat) (RL : List Rm) (s1 s2 s3 : Value) (K1 K2 : List Vl) (Rs : List Rm → Vl) (how : Int) : Prop where
  env : VEnv w
  res : ∀ (A : Option Addr) (q c : Nat) (L : List Rm) W, VEnv W → Reads 12 rmC W (.slice A q c) L → q ≤ 14 → (∀ r ∈ L, r ∈ RL) → Calls Tryz.prog 19 #[.slice A q c, .int .i64 how] W fun e w' => e = .returned (.agg (vA (Rs L))) ∧ Below W.heap.size W w'
  loc : Loc w L0 w2
  rd : Reads 12 rmC w2 s3 RL
  k1 : KT w2 s1 K1
  k2 : KT w2 s2 K2
  d12 : h1 ≠ h2
  d13 : h1 ≠ h3
  d23 : h2 ≠ h3
  nm : NM = n * m
  ask : ∃ q1 q2, (w.heap.size + 1, 30, #[q1, q2, .int .i64 2, .int .i64 how]) ∈ L0
  out : (w.heap.size + 1 + 1, 33, z14) ∈ L0
  tB : w2.heap.size < tB
  len : RL.length = R
  r1 : 1 ≤ R
  lR : R ≤ 14
  ln : n ≤ 14
  lm : m ≤ 14
  row : ∀ r ∈ RL, r.row < n
  col : ∀ r ∈ RL, r.col < m
/-- What the last loops know is so when the records are in their groups. -/
theorem Mj.done {w w2 wz : World} {L0 : List (Nat × TypeId × Array Value)} {tB h1 h2 h3 n m NM B R : Nat} {RL : List Rm} {s1 s2 s3 : Value} {tc : Array Value} {K1 K2 : List Vl} {Rs : List Rm → Vl} {how : Int} {H : Nat → SV} (h : Mj w w2 L0 tB h1 h2 h3 n m NM B R RL s1 s2 s3 K1 K2 Rs how)
    (hb : BS w2 wz [(tB, 33, tc), (w2.heap.size, 56, #[s1, s2, s3])] B (NM + n + m) h1 NM h2 n h3 m H (FF n m RL) H (fun k => H (NM + k)) (fun k => H (NM + n + k))) :
    Mk w wz ((w2.heap.size, 56, #[s1, s2, s3]) :: L0) tB h1 h2 h3 n m RL s1 s2 K1 K2 Rs how ∧ LS w wz wz ((w2.heap.size, 56, #[s1, s2, s3]) :: L0) tB tc wz.heap.size (.slice none 0 0) [] [] := by
  have hB := hb.own _ (List.mem_cons_self ..)
  dsimp only at hB
  have hBz := hb.base
  have htB := h.tB
  have hrow : ∀ x, x < NM + n + m → ∃ A c, sv3 (H x) = .slice A (FF n m RL x).length c ∧ ∀ W, Chg wz.heap.size [tB] wz W → Reads 12 rmC W (.slice A (FF n m RL x).length c) (FF n m RL x) := fun x hx => by
    have ho := hb.bag.row x hx
    obtain ⟨A, c, e⟩ := (RowOf.reads ho rmC_len).shape
    refine ⟨A, c, e, fun W hW => ?_⟩
    rw [← e]
    exact RowOf.reads (RowOf.chg ho hW fun g hg => ⟨(RowOf.lt ho g hg).2, fun hm => by
      have h1 := (RowOf.lt ho g hg).1
      have h2 := List.mem_singleton.1 hm
      omega⟩) rmC_len
  have hcell : ∀ {g' N' : Nat} {H' : Nat → SV} {W : World} {i : Nat}, HR wz B g' N' H' → Chg wz.heap.size [tB] wz W → i < N' → W.cell? ⟨g', i, none⟩ = some (sv3 (H' i)) := fun ha hW hi => HR.cell (ha.chg hW (fun hm => by
      have h1 := ha.lt.1
      have h2 := List.mem_singleton.1 hm
      omega)) hi
  have hbw : Below w2.heap.size w2 wz := hb.loc.bel
  have hlt : ∀ x ∈ L0, x.1 < w2.heap.size := fun x hx => (h.loc.2 x hx).2.lt
  have hLz : Loc w L0 wz := h.loc.step hbw
  have hL1 : Loc w ((w2.heap.size, 56, #[s1, s2, s3]) :: L0) wz := hLz.cons h.loc.bel.size (hb.loc.blk (List.mem_cons_of_mem _ (List.mem_cons_self ..)))
  have hL2 : Loc w ((tB, 33, tc) :: (w2.heap.size, 56, #[s1, s2, s3]) :: L0) wz := hL1.cons (Nat.le_trans h.loc.bel.size (Nat.le_of_lt htB)) (hb.loc.blk (List.mem_cons_self ..))
  have hlow := h.loc.bel.size
  have hkt : ∀ {s : Value} {K : List Vl}, KT w2 s K → ∀ W, Chg wz.heap.size [tB] wz W → KT W s K := fun hk W hW => (hk.later hbw).chg hW fun g hg => by
    obtain rfl := List.mem_singleton.1 hg
    exact ⟨_, _, hb.loc.blk (List.mem_cons_self ..), by decide, by decide⟩
  have hl1 : ∀ x ∈ ((w2.heap.size, 56, #[s1, s2, s3]) :: L0 : List (Nat × TypeId × Array Value)), x.1 < tB := fun x hx => by
    rcases List.mem_cons.1 hx with rfl | hx
    · exact htB
    · have := hlt x hx
      omega
  obtain ⟨q1, q2, hq⟩ := h.ask
  refine ⟨⟨h.env, h.res, fun k hk => ?_, fun i hi => ?_, fun k hk => ?_, fun W hW => ⟨hkt h.k1 W hW, hkt h.k2 W hW⟩, fun x hx => Nat.ne_of_lt (hl1 x hx), hl1, by omega, by omega, ⟨q1, q2, List.mem_cons_of_mem _ hq⟩, List.mem_cons_of_mem _ h.out, by rw [h.len]; exact h.lR, h.ln, h.lm⟩, ⟨hL2, RowOf.nil _ _, Chg.refl _ _ _, Nat.le_refl _, Nat.le_refl _, fun p hp => by cases hp⟩⟩
  · have hk' : k < NM := by rw [h.nm]; exact hk
    obtain ⟨A, c, e, hr⟩ := hrow k (by omega)
    rw [ff_cell n m RL k hk] at e hr
    exact ⟨A, c, fun W hW => ⟨by rw [← e]; exact hcell hb.a1 hW hk', hr W hW⟩⟩
  · obtain ⟨A, c, e, hr⟩ := hrow (NM + i) (by omega)
    rw [h.nm, ff_row n m RL i hi, ← h.nm] at e
    rw [h.nm, ff_row n m RL i hi] at hr
    exact ⟨A, c, fun W hW => ⟨by rw [← e]; exact hcell hb.a2 hW hi, hr W hW⟩⟩
  · obtain ⟨A, c, e, hr⟩ := hrow (NM + n + k) (by omega)
    rw [h.nm, ff_col n m RL k, ← h.nm] at e
    rw [h.nm, ff_col n m RL k] at hr
    exact ⟨A, c, fun W hW => ⟨by rw [← e]; exact hcell hb.a3 hW hk, hr W hW⟩⟩
noncomputable def mrest10 : Code := ((Tryz.f6.body.bind (contAt 10)).getD .skip)
set_option maxRecDepth 100000 in
set_option maxHeartbeats 40000000 in
theorem make10 {u0 u1 u2 u5 u6 u14 u15 u16 u17 u18 u19 u20 u21 u22 u23 u24 u25 u26 u27 u28 u29 u30 u31 u32 u33 u34 u35 u36 u37 u38 u39 u40 u41 u42 u43 u44 u45 u46 u47 u48 u49 u50 u51 u52 u53 u54 u55 u56 u57 u58 u59 u60 u61 u62 u63 u64 u65 u66 u67 u68 u69 u70 u71 u72 u73 u74 u75 u76 u77 u78 u79 u80 u81 u82 u83 u84 u85 u86 u87 u88 u89 u90 u91 u92 u93 u94 u95 u96 u97 u98 u99 u100 u101 u102 u103 u104 u105 u106 u107 u108 u109 u110 u111 u112 u113 u114 u115 u116 u117 u118 u119 u120 u121 u122 u123 u124 u125 u126 u127 u128 u129 u130 u131 u132 u133 u134 u135 u136 u137 u138 u139 u140 u141 u142 u143 u144 u145 u146 u147 u148 u149 u150 u151 u152 u153 u154 u155 u156 u157 u158 u159 u160 u161 u162 u163 u164 : Value} {w w2 wr : World} {L0 : List (Nat × TypeId × Array Value)} {tB h1 h2 h3 n m NM B R : Nat} {RL : List Rm} {g1 c1 g2 c2 g3 c3 : Nat} {tk : Int} {tnum tden ttx : ByteArray} {ton : Bool} {tco tro tcl : Int} {tA : Option Addr} {tn tc : Nat} {K1 K2 : List Vl} {Rs : List Rm → Vl} {how : Int} (HJ : Hid (Mj w w2 L0 tB h1 h2 h3 n m NM B R RL (.slice (some ⟨g1, 0, none⟩) n c1) (.slice (some ⟨g2, 0, none⟩) m c2) (.slice (some ⟨g3, 0, none⟩) R c3) K1 K2 Rs how)) (HTT : Hid (Rs RL = ⟨tk, tnum, tden, ttx, ton, tco, tro, tcl, tA, tn, tc⟩)) (HS : Hid (BS w2 wr [(tB, 33, #[.slice (some ⟨g1, 0, none⟩) n c1, .slice (some ⟨g2, 0, none⟩) m c2, .slice none 0 0, .slice none 0 0, .slice none 0 0, .int .i64 tk, .string tnum, .string tden, .string ttx, .bool ton, .int .i64 tco, .int .i64 tro, .int .i64 tcl, .slice tA tn tc]), (w2.heap.size, 56, #[(.slice (some ⟨g1, 0, none⟩) n c1), (.slice (some ⟨g2, 0, none⟩) m c2), (.slice (some ⟨g3, 0, none⟩) R c3)])] B (NM + n + m) h1 NM h2 n h3 m (fun _ => (none, 0, 0)) (fun _ => []) (fun _ => (none, 0, 0)) (fun _ => (none, 0, 0)) (fun _ => (none, 0, 0)))) :
    Code.wp Tryz.prog mrest10 (bodyPost Tryz.prog Tryz.f6 (MakeR n m K1 K2 RL Rs w)) ⟨#[u0, u1, u2, .pointer (some ⟨w.heap.size + 1, 0, none⟩), .pointer (some ⟨w.heap.size + 1 + 1, 0, none⟩), u5, u6, .pointer (some ⟨w2.heap.size, 0, none⟩), .int .i64 (n : Int), .int .i64 (m : Int), .pointer (some ⟨tB, 0, none⟩), .slice (some ⟨h1, 0, none⟩) NM NM, .slice (some ⟨h2, 0, none⟩) n n, .slice (some ⟨h3, 0, none⟩) m m, u14, u15, u16, u17, u18, u19, u20, u21, u22, u23, u24, u25, u26, u27, u28, u29, u30, u31, u32, u33, u34, u35, u36, u37, u38, u39, u40, u41, u42, u43, u44, u45, u46, u47, u48, u49, u50, u51, u52, u53, u54, u55, u56, u57, u58, u59, u60, u61, u62, u63, u64, u65, u66, u67, u68, u69, u70, u71, u72, u73, u74, u75, u76, u77, u78, u79, u80, u81, u82, u83, u84, u85, u86, u87, u88, u89, u90, u91, u92, u93, u94, u95, u96, u97, u98, u99, u100, u101, u102, u103, u104, u105, u106, u107, u108, u109, u110, u111, u112, u113, u114, u115, u116, u117, u118, u119, u120, u121, u122, u123, u124, u125, u126, u127, u128, u129, u130, u131, u132, u133, u134, u135, u136, u137, u138, u139, u140, u141, u142, u143, u144, u145, u146, u147, u148, u149, u150, u151, u152, u153, u154, u155, u156, u157, u158, u159, u160, u161, u162, u163, u164], []⟩ wr := by
  conv => arg 2; whnf
  conv => arg 4; zeta
  have hRl := HJ.out.len
  have hr1 := HJ.out.r1
  have hR14 := HJ.out.lR
  have hn14 := HJ.out.ln
  have hm14 := HJ.out.lm
  have hnm : NM ≤ 196 := by rw [HJ.out.nm]; exact Nat.le_trans (Nat.mul_le_mul hn14 hm14) (by decide)
  obtain ⟨-, hbl, hcell⟩ := HJ.out.rd.lt (by omega)
  have HC := Lib.hid (show ∀ j (hj : j < R), ∃ r, r = RL[j]! ∧ r.row < n ∧ r.col < m ∧ RL.take (j + 1) = RL.take j ++ [r] ∧ ∀ W, Below w2.heap.size w2 W → ∀ q, q < 12 → W.cell? ⟨g3, j * 12 + q, none⟩ = (rmC r)[q]? from fun j hj => by
    have hj' : j < RL.length := by omega
    have hm : RL[j]! ∈ RL := by rw [getElem!_pos RL j hj']; exact List.getElem_mem _
    refine ⟨_, rfl, HJ.out.row _ hm, HJ.out.col _ hm, by rw [getElem!_pos RL j hj']; exact (List.take_append_getElem hj').symm, fun W hW q hq => ?_⟩
    have := hcell j (by omega) q hq
    rw [Nat.zero_add, ← getElem!_pos RL j (by omega)] at this
    exact (hW.cell (by exact hbl)).trans this)
  have HTK := Lib.hid (List.take_of_length_le (Nat.le_of_eq hRl))
  have HLN := Lib.hid (show ∀ j, (RL.take j).length ≤ 1000 from fun j => Nat.le_trans (List.length_take_le' _ _) (by omega))
  have HS0 := Lib.hid (show BS w2 wr [(tB, 33, #[.slice (some ⟨g1, 0, none⟩) n c1, .slice (some ⟨g2, 0, none⟩) m c2, .slice none 0 0, .slice none 0 0, .slice none 0 0, .int .i64 tk, .string tnum, .string tden, .string ttx, .bool ton, .int .i64 tco, .int .i64 tro, .int .i64 tcl, .slice tA tn tc]), (w2.heap.size, 56, #[(.slice (some ⟨g1, 0, none⟩) n c1), (.slice (some ⟨g2, 0, none⟩) m c2), (.slice (some ⟨g3, 0, none⟩) R c3)])] B (NM + n + m) h1 NM h2 n h3 m (fun _ => (none, 0, 0)) (FF n m (RL.take 0)) (fun _ => (none, 0, 0)) (fun k => (fun _ => (none, 0, 0)) (NM + k)) (fun k => (fun _ => (none, 0, 0)) (NM + n + k)) from HS.out.congr (fun x _ => (ff_nil n m x).symm) (fun _ _ => rfl) (fun _ _ => rfl) (fun _ _ => rfl))
  have s2c : wr.cell? ⟨w2.heap.size, 2, none⟩ = some (.slice (some ⟨g3, 0, none⟩) R c3) := (HS.out.loc.blk (g := w2.heap.size) (t := 56) (List.mem_cons_of_mem _ (List.mem_cons_self ..))).cell 2
  clear HS hbl hcell hRl
  go_upto_block 0 with fail
  go_cut [] (fun wx => ∃ H, Hid (BS w2 wx [(tB, 33, #[.slice (some ⟨g1, 0, none⟩) n c1, .slice (some ⟨g2, 0, none⟩) m c2, .slice none 0 0, .slice none 0 0, .slice none 0 0, .int .i64 tk, .string tnum, .string tden, .string ttx, .bool ton, .int .i64 tco, .int .i64 tro, .int .i64 tcl, .slice tA tn tc]), (w2.heap.size, 56, #[(.slice (some ⟨g1, 0, none⟩) n c1), (.slice (some ⟨g2, 0, none⟩) m c2), (.slice (some ⟨g3, 0, none⟩) R c3)])] B (NM + n + m) h1 NM h2 n h3 m H (FF n m RL) H (fun k => H (NM + k)) (fun k => H (NM + n + k))))
  case first =>
    go_wp2_with fail
    clear s2c
    go_loopw [66] (fun u66 wx => ∃ (j : Nat) (H : Nat → SV), j ≤ R ∧ u66 = .int .i64 j ∧ Hid (BS w2 wx [(tB, 33, #[.slice (some ⟨g1, 0, none⟩) n c1, .slice (some ⟨g2, 0, none⟩) m c2, .slice none 0 0, .slice none 0 0, .slice none 0 0, .int .i64 tk, .string tnum, .string tden, .string ttx, .bool ton, .int .i64 tco, .int .i64 tro, .int .i64 tcl, .slice tA tn tc]), (w2.heap.size, 56, #[(.slice (some ⟨g1, 0, none⟩) n c1), (.slice (some ⟨g2, 0, none⟩) m c2), (.slice (some ⟨g3, 0, none⟩) R c3)])] B (NM + n + m) h1 NM h2 n h3 m H (FF n m (RL.take j)) H (fun k => H (NM + k)) (fun k => H (NM + n + k)))) (fun u _ => R - (intOf u).toNat)
    case atStart => exact ⟨0, _, by omega, rfl, HS0⟩
    case round =>
      clear HS0
      obtain ⟨j, H, hj, rfl, HS⟩ := hrel
      by_cases hlt : j < R
      · have hlz : (j : Int) < (R : Int) := by omega
        obtain ⟨r, hr, hrow, hcol, htk, hcl⟩ := HC.out j hlt
        have HTK1 := Lib.hid htk
        have hlen := HLN.out j
        have HB2 := Lib.hid HS.out.loc.bel
        have hbw := HB2.out
        obtain ⟨ra, rr, rl, ⟨uk, unum, uden, utext, uon, ucode, urows, ucols, uA, un, uc⟩⟩ := r
        dsimp only at hrow hcol
        have e0 : wr.cell? ⟨g3, j * 12, none⟩ = some (.int .i64 (ra : Int)) := hcl wr hbw 0 (by decide)
        have e1 : wr.cell? ⟨g3, j * 12 + 1, none⟩ = some (.int .i64 (rr : Int)) := hcl wr hbw 1 (by decide)
        have e2 : wr.cell? ⟨g3, j * 12 + 2, none⟩ = some (.int .i64 (rl : Int)) := hcl wr hbw 2 (by decide)
        have e3 : wr.cell? ⟨g3, j * 12 + 3, none⟩ = some (.int .i64 uk) := hcl wr hbw 3 (by decide)
        have e4 : wr.cell? ⟨g3, j * 12 + 4, none⟩ = some (.string unum) := hcl wr hbw 4 (by decide)
        have e5 : wr.cell? ⟨g3, j * 12 + 5, none⟩ = some (.string uden) := hcl wr hbw 5 (by decide)
        have e6 : wr.cell? ⟨g3, j * 12 + 6, none⟩ = some (.string utext) := hcl wr hbw 6 (by decide)
        have e7 : wr.cell? ⟨g3, j * 12 + 7, none⟩ = some (.bool uon) := hcl wr hbw 7 (by decide)
        have e8 : wr.cell? ⟨g3, j * 12 + 8, none⟩ = some (.int .i64 ucode) := hcl wr hbw 8 (by decide)
        have e9 : wr.cell? ⟨g3, j * 12 + 9, none⟩ = some (.int .i64 urows) := hcl wr hbw 9 (by decide)
        have e10 : wr.cell? ⟨g3, j * 12 + 10, none⟩ = some (.int .i64 ucols) := hcl wr hbw 10 (by decide)
        have e11 : wr.cell? ⟨g3, j * 12 + 11, none⟩ = some (.slice uA un uc) := hcl wr hbw 11 (by decide)
        clear hcl hr hbw htk
        have hpm : rr * m + rl < NM := by
          rw [HJ.out.nm]
          have := Nat.mul_le_mul_right m (show rr + 1 ≤ n from hrow)
          rw [Nat.add_mul] at this
          omega
        obtain ⟨p, hp⟩ : ∃ p, p = rr * m := ⟨_, rfl⟩
        have hpz : (rr : Int) * (m : Int) = (p : Int) := by rw [hp]; push_cast; rfl
        rw [← hp] at hpm
        have HPP := Lib.hid hp
        clear hp
        have z4 : ((p : Int) + (rl : Int)).toNat = p + rl := by omega
        have z2 : (p : Int) + (rl : Int) < (NM : Int) := by omega
        have z5 : (0 : Int) ≤ (p : Int) + (rl : Int) := by omega
        have z6 : (rr : Int) < (n : Int) := by omega
        have z7 : (rl : Int) < (m : Int) := by omega
        go_upto_region 14 with fail
        have HAP := Lib.hid (Ap.new (cs := rA ⟨ra, rr, rl, ⟨uk, unum, uden, utext, uon, ucode, urows, ucols, uA, un, uc⟩⟩) HS.out.bag HS.out.base)
        have HSA := Lib.hid (HS.out.alloc (.cells (rA ⟨ra, rr, rl, ⟨uk, unum, uden, utext, uon, ucode, urows, ucols, uA, un, uc⟩⟩) 61))
        clear e0 e1 e2 e3 e4 e5 e6 e7 e8 e9 e10 e11 HS HB2
        revert HAP HSA
        unfold rA
        dsimp only
        generalize wr.alloc (.cells #[.int .i64 (ra : Int), .int .i64 (rr : Int), .int .i64 (rl : Int), .int .i64 uk, .string unum, .string uden, .string utext, .bool uon, .int .i64 ucode, .int .i64 urows, .int .i64 ucols, .slice uA un uc] 61) = W1
        obtain ⟨z, hz⟩ : ∃ z, z = wr.heap.size := ⟨_, rfl⟩
        rw [← hz]
        intro HAP HSA
        clear hz
        have HSS := Lib.hid (show ∀ W Hx Fx, BS w2 W [(tB, 33, #[.slice (some ⟨g1, 0, none⟩) n c1, .slice (some ⟨g2, 0, none⟩) m c2, .slice none 0 0, .slice none 0 0, .slice none 0 0, .int .i64 tk, .string tnum, .string tden, .string ttx, .bool ton, .int .i64 tco, .int .i64 tro, .int .i64 tcl, .slice tA tn tc]), (w2.heap.size, 56, #[(.slice (some ⟨g1, 0, none⟩) n c1), (.slice (some ⟨g2, 0, none⟩) m c2), (.slice (some ⟨g3, 0, none⟩) R c3)])] B (NM + n + m) h1 NM h2 n h3 m Hx Fx H (fun k => H (NM + k)) (fun k => H (NM + n + k)) → Ap W B (NM + n + m) Hx #[.int .i64 (ra : Int), .int .i64 (rr : Int), .int .i64 (rl : Int), .int .i64 uk, .string unum, .string uden, .string utext, .bool uon, .int .i64 ucode, .int .i64 urows, .int .i64 ucols, .slice uA un uc] z → (W.cell? ⟨z, 0, none⟩ = some (.int .i64 (ra : Int)) ∧ W.cell? ⟨z, 1, none⟩ = some (.int .i64 (rr : Int)) ∧ W.cell? ⟨z, 2, none⟩ = some (.int .i64 (rl : Int)) ∧ W.cell? ⟨z, 3, none⟩ = some (.int .i64 uk) ∧ W.cell? ⟨z, 4, none⟩ = some (.string unum) ∧ W.cell? ⟨z, 5, none⟩ = some (.string uden) ∧ W.cell? ⟨z, 6, none⟩ = some (.string utext) ∧ W.cell? ⟨z, 7, none⟩ = some (.bool uon) ∧ W.cell? ⟨z, 8, none⟩ = some (.int .i64 ucode) ∧ W.cell? ⟨z, 9, none⟩ = some (.int .i64 urows) ∧ W.cell? ⟨z, 10, none⟩ = some (.int .i64 ucols) ∧ W.cell? ⟨z, 11, none⟩ = some (.slice uA un uc)) ∧ (W.cell? ⟨h1, p + rl, none⟩ = some (sv3 (H (p + rl))) ∧ W.cell? ⟨h2, rr, none⟩ = some (sv3 (H (NM + rr))) ∧ W.cell? ⟨h3, rl, none⟩ = some (sv3 (H (NM + n + rl)))) from fun W Hx Fx hb ha => ⟨⟨ha.blk.cell 0, ha.blk.cell 1, ha.blk.cell 2, ha.blk.cell 3, ha.blk.cell 4, ha.blk.cell 5, ha.blk.cell 6, ha.blk.cell 7, ha.blk.cell 8, ha.blk.cell 9, ha.blk.cell 10, ha.blk.cell 11⟩, hb.a1.cell hpm, hb.a2.cell hrow, hb.a3.cell hcol⟩)
        have HBW := Lib.hid HSA.out.drew
        have HAW := Lib.hid (HAP.out.later (Below.drew (Below.refl _ _)))
        clear HSA HAP
        refine wp_region_G (S1 := fun W => W.cell? ⟨z, 0, none⟩ = some (.int .i64 (ra : Int)) ∧ W.cell? ⟨z, 1, none⟩ = some (.int .i64 (rr : Int)) ∧ W.cell? ⟨z, 2, none⟩ = some (.int .i64 (rl : Int)) ∧ W.cell? ⟨z, 3, none⟩ = some (.int .i64 uk) ∧ W.cell? ⟨z, 4, none⟩ = some (.string unum) ∧ W.cell? ⟨z, 5, none⟩ = some (.string uden) ∧ W.cell? ⟨z, 6, none⟩ = some (.string utext) ∧ W.cell? ⟨z, 7, none⟩ = some (.bool uon) ∧ W.cell? ⟨z, 8, none⟩ = some (.int .i64 ucode) ∧ W.cell? ⟨z, 9, none⟩ = some (.int .i64 urows) ∧ W.cell? ⟨z, 10, none⟩ = some (.int .i64 ucols) ∧ W.cell? ⟨z, 11, none⟩ = some (.slice uA un uc)) (S2 := fun W => W.cell? ⟨h1, p + rl, none⟩ = some (sv3 (H (p + rl))) ∧ W.cell? ⟨h2, rr, none⟩ = some (sv3 (H (NM + rr))) ∧ W.cell? ⟨h3, rl, none⟩ = some (sv3 (H (NM + n + rl)))) (d := 32) (by kernel_rfl) (HSS.out _ _ _ HBW.out HAW.out).1 (HSS.out _ _ _ HBW.out HAW.out).2 (fun hT => ?_)
        refine wpAnyG_take1d (i := 0) (v := ?_) rfl rfl (by kernel_rfl) (by kernel_rfl) (by kernel_rfl) (by kernel_rfl) (fun _ _ _ h => h) (Or.inl ⟨by rfl, ?_⟩) (by assumption) (fun hT => ?_)
        rotate_left
        · intro w hSw
          (try dsimp only at hSw)
          go_simp
          (try with_reducible rfl)
        (try simp only [Act.put, List.setIfInBounds_toArray, List.set_cons_zero, List.set_cons_succ])
        refine wpAnyG_take1d (i := 1) (v := ?_) rfl rfl (by kernel_rfl) (by kernel_rfl) (by kernel_rfl) (by kernel_rfl) (fun _ _ _ h => h) (Or.inl ⟨by rfl, ?_⟩) (by assumption) (fun hT => ?_)
        rotate_left
        · intro w hSw
          (try dsimp only at hSw)
          go_simp
          (try with_reducible rfl)
        (try simp only [Act.put, List.setIfInBounds_toArray, List.set_cons_zero, List.set_cons_succ])
        refine wpAnyG_take1d (i := 2) (v := ?_) rfl rfl (by kernel_rfl) (by kernel_rfl) (by kernel_rfl) (by kernel_rfl) (fun _ _ _ h => h) (Or.inl ⟨by rfl, ?_⟩) (by assumption) (fun hT => ?_)
        rotate_left
        · intro w hSw
          (try dsimp only at hSw)
          go_simp
          (try with_reducible rfl)
        (try simp only [Act.put, List.setIfInBounds_toArray, List.set_cons_zero, List.set_cons_succ])
        refine wpAnyG_take1d (i := 3) (v := ?_) rfl rfl (by kernel_rfl) (by kernel_rfl) (by kernel_rfl) (by kernel_rfl) (fun _ _ _ h => h) (Or.inl ⟨by rfl, ?_⟩) (by assumption) (fun hT => ?_)
        rotate_left
        · intro w hSw
          (try dsimp only at hSw)
          go_simp
          (try with_reducible rfl)
        (try simp only [Act.put, List.setIfInBounds_toArray, List.set_cons_zero, List.set_cons_succ])
        refine wpAnyG_take1d (i := 4) (v := ?_) rfl rfl (by kernel_rfl) (by kernel_rfl) (by kernel_rfl) (by kernel_rfl) (fun _ _ _ h => h) (Or.inl ⟨by rfl, ?_⟩) (by assumption) (fun hT => ?_)
        rotate_left
        · intro w hSw
          (try dsimp only at hSw)
          go_simp
          (try with_reducible rfl)
        (try simp only [Act.put, List.setIfInBounds_toArray, List.set_cons_zero, List.set_cons_succ])
        refine wpAnyG_take1d (i := 5) (v := ?_) rfl rfl (by kernel_rfl) (by kernel_rfl) (by kernel_rfl) (by kernel_rfl) (fun _ _ _ h => h) (Or.inl ⟨by rfl, ?_⟩) (by assumption) (fun hT => ?_)
        rotate_left
        · intro w hSw
          (try dsimp only at hSw)
          go_simp
          (try with_reducible rfl)
        (try simp only [Act.put, List.setIfInBounds_toArray, List.set_cons_zero, List.set_cons_succ])
        refine wpAnyG_take1d (i := 6) (v := ?_) rfl rfl (by kernel_rfl) (by kernel_rfl) (by kernel_rfl) (by kernel_rfl) (fun _ _ _ h => h) (Or.inl ⟨by rfl, ?_⟩) (by assumption) (fun hT => ?_)
        rotate_left
        · intro w hSw
          (try dsimp only at hSw)
          go_simp
          (try with_reducible rfl)
        (try simp only [Act.put, List.setIfInBounds_toArray, List.set_cons_zero, List.set_cons_succ])
        refine wpAnyG_take1d (i := 7) (v := ?_) rfl rfl (by kernel_rfl) (by kernel_rfl) (by kernel_rfl) (by kernel_rfl) (fun _ _ _ h => h) (Or.inl ⟨by rfl, ?_⟩) (by assumption) (fun hT => ?_)
        rotate_left
        · intro w hSw
          (try dsimp only at hSw)
          go_simp
          (try with_reducible rfl)
        (try simp only [Act.put, List.setIfInBounds_toArray, List.set_cons_zero, List.set_cons_succ])
        refine wpAnyG_take1d (i := 8) (v := ?_) rfl rfl (by kernel_rfl) (by kernel_rfl) (by kernel_rfl) (by kernel_rfl) (fun _ _ _ h => h) (Or.inl ⟨by rfl, ?_⟩) (by assumption) (fun hT => ?_)
        rotate_left
        · intro w hSw
          (try dsimp only at hSw)
          go_simp
          (try with_reducible rfl)
        (try simp only [Act.put, List.setIfInBounds_toArray, List.set_cons_zero, List.set_cons_succ])
        refine wpAnyG_take1d (i := 9) (v := ?_) rfl rfl (by kernel_rfl) (by kernel_rfl) (by kernel_rfl) (by kernel_rfl) (fun _ _ _ h => h) (Or.inl ⟨by rfl, ?_⟩) (by assumption) (fun hT => ?_)
        rotate_left
        · intro w hSw
          (try dsimp only at hSw)
          go_simp
          (try with_reducible rfl)
        (try simp only [Act.put, List.setIfInBounds_toArray, List.set_cons_zero, List.set_cons_succ])
        refine wpAnyG_take1d (i := 10) (v := ?_) rfl rfl (by kernel_rfl) (by kernel_rfl) (by kernel_rfl) (by kernel_rfl) (fun _ _ _ h => h) (Or.inl ⟨by rfl, ?_⟩) (by assumption) (fun hT => ?_)
        rotate_left
        · intro w hSw
          (try dsimp only at hSw)
          go_simp
          (try with_reducible rfl)
        (try simp only [Act.put, List.setIfInBounds_toArray, List.set_cons_zero, List.set_cons_succ])
        refine wpAnyG_take2d (i := 11) (v := ?_) rfl rfl (by kernel_rfl) (by kernel_rfl) (by kernel_rfl) (by kernel_rfl) (by kernel_rfl) (by kernel_rfl) (fun _ _ _ h => h) (Or.inl ⟨by rfl, ?_⟩) (by assumption) (fun hT => ?_)
        rotate_left
        · intro w hSw
          (try dsimp only at hSw)
          go_simp
          (try with_reducible rfl)
        (try simp only [Act.put, List.setIfInBounds_toArray, List.set_cons_zero, List.set_cons_succ])
        refine wpAnyG_take1d (i := 12) (v := ?_) rfl rfl (by kernel_rfl) (by kernel_rfl) (by kernel_rfl) (by kernel_rfl) (fun _ _ _ h => h) (Or.inl ⟨by rfl, ?_⟩) (by assumption) (fun hT => ?_)
        rotate_left
        · intro w hSw
          (try dsimp only at hSw)
          go_simp
          (try with_reducible rfl)
        (try simp only [Act.put, List.setIfInBounds_toArray, List.set_cons_zero, List.set_cons_succ])
        refine wpAnyG_take1d (i := 15) (v := ?_) rfl rfl (by kernel_rfl) (by kernel_rfl) (by kernel_rfl) (by kernel_rfl) (fun _ _ _ h => h) (Or.inl ⟨by rfl, ?_⟩) (by assumption) (fun hT => ?_)
        rotate_left
        · intro w hSw
          (try dsimp only at hSw)
          go_simp
          (try with_reducible rfl)
        (try simp only [Act.put, List.setIfInBounds_toArray, List.set_cons_zero, List.set_cons_succ])
        refine wpAnyG_take1d (i := 16) (v := ?_) rfl rfl (by kernel_rfl) (by kernel_rfl) (by kernel_rfl) (by kernel_rfl) (fun _ _ _ h => h) (Or.inl ⟨by rfl, ?_⟩) (by assumption) (fun hT => ?_)
        rotate_left
        · intro w hSw
          (try dsimp only at hSw)
          go_simp
          (try with_reducible rfl)
        (try simp only [Act.put, List.setIfInBounds_toArray, List.set_cons_zero, List.set_cons_succ])
        refine wpAnyG_take1d (i := 17) (v := ?_) rfl rfl (by kernel_rfl) (by kernel_rfl) (by kernel_rfl) (by kernel_rfl) (fun _ _ _ h => h) (Or.inl ⟨by rfl, ?_⟩) (by assumption) (fun hT => ?_)
        rotate_left
        · intro w hSw
          (try dsimp only at hSw)
          go_simp
          (try with_reducible rfl)
        (try simp only [Act.put, List.setIfInBounds_toArray, List.set_cons_zero, List.set_cons_succ])
        refine wpAnyG_take1d (i := 18) (v := ?_) rfl rfl (by kernel_rfl) (by kernel_rfl) (by kernel_rfl) (by kernel_rfl) (fun _ _ _ h => h) (Or.inl ⟨by rfl, ?_⟩) (by assumption) (fun hT => ?_)
        rotate_left
        · intro w hSw
          (try dsimp only at hSw)
          go_simp
          (try with_reducible rfl)
        (try simp only [Act.put, List.setIfInBounds_toArray, List.set_cons_zero, List.set_cons_succ])
        refine wpAnyG_take2d (i := 19) (v := ?_) rfl rfl (by kernel_rfl) (by kernel_rfl) (by kernel_rfl) (by kernel_rfl) (by kernel_rfl) (by kernel_rfl) (fun _ _ _ h => h) (Or.inl ⟨by rfl, ?_⟩) (by assumption) (fun hT => ?_)
        rotate_left
        · intro w hSw
          (try dsimp only at hSw)
          go_simp
          (try with_reducible rfl)
        (try simp only [Act.put, List.setIfInBounds_toArray, List.set_cons_zero, List.set_cons_succ])
        refine wpAnyG_take1d (i := 20) (v := ?_) rfl rfl (by kernel_rfl) (by kernel_rfl) (by kernel_rfl) (by kernel_rfl) (fun _ _ _ h => h) (Or.inl ⟨by rfl, ?_⟩) (by assumption) (fun hT => ?_)
        rotate_left
        · intro w hSw
          (try dsimp only at hSw)
          go_simp
          (try with_reducible rfl)
        (try simp only [Act.put, List.setIfInBounds_toArray, List.set_cons_zero, List.set_cons_succ])
        refine wpAnyG_take1d (i := 23) (v := ?_) rfl rfl (by kernel_rfl) (by kernel_rfl) (by kernel_rfl) (by kernel_rfl) (fun _ _ _ h => h) (Or.inl ⟨by rfl, ?_⟩) (by assumption) (fun hT => ?_)
        rotate_left
        · intro w hSw
          (try dsimp only at hSw)
          go_simp
          (try with_reducible rfl)
        (try simp only [Act.put, List.setIfInBounds_toArray, List.set_cons_zero, List.set_cons_succ])
        refine wpAnyG_take1d (i := 24) (v := ?_) rfl rfl (by kernel_rfl) (by kernel_rfl) (by kernel_rfl) (by kernel_rfl) (fun _ _ _ h => h) (Or.inl ⟨by rfl, ?_⟩) (by assumption) (fun hT => ?_)
        rotate_left
        · intro w hSw
          (try dsimp only at hSw)
          go_simp
          (try with_reducible rfl)
        (try simp only [Act.put, List.setIfInBounds_toArray, List.set_cons_zero, List.set_cons_succ])
        refine wpAnyG_take1d (i := 25) (v := ?_) rfl rfl (by kernel_rfl) (by kernel_rfl) (by kernel_rfl) (by kernel_rfl) (fun _ _ _ h => h) (Or.inl ⟨by rfl, ?_⟩) (by assumption) (fun hT => ?_)
        rotate_left
        · intro w hSw
          (try dsimp only at hSw)
          go_simp
          (try with_reducible rfl)
        (try simp only [Act.put, List.setIfInBounds_toArray, List.set_cons_zero, List.set_cons_succ])
        refine wpAnyG_take1d (i := 26) (v := ?_) rfl rfl (by kernel_rfl) (by kernel_rfl) (by kernel_rfl) (by kernel_rfl) (fun _ _ _ h => h) (Or.inl ⟨by rfl, ?_⟩) (by assumption) (fun hT => ?_)
        rotate_left
        · intro w hSw
          (try dsimp only at hSw)
          go_simp
          (try with_reducible rfl)
        (try simp only [Act.put, List.setIfInBounds_toArray, List.set_cons_zero, List.set_cons_succ])
        refine wpAnyG_take2d (i := 27) (v := ?_) rfl rfl (by kernel_rfl) (by kernel_rfl) (by kernel_rfl) (by kernel_rfl) (by kernel_rfl) (by kernel_rfl) (fun _ _ _ h => h) (Or.inl ⟨by rfl, ?_⟩) (by assumption) (fun hT => ?_)
        rotate_left
        · intro w hSw
          (try dsimp only at hSw)
          go_simp
          (try with_reducible rfl)
        (try simp only [Act.put, List.setIfInBounds_toArray, List.set_cons_zero, List.set_cons_succ])
        refine wpAnyG_take1d (i := 28) (v := ?_) rfl rfl (by kernel_rfl) (by kernel_rfl) (by kernel_rfl) (by kernel_rfl) (fun _ _ _ h => h) (Or.inl ⟨by rfl, ?_⟩) (by assumption) (fun hT => ?_)
        rotate_left
        · intro w hSw
          (try dsimp only at hSw)
          go_simp
          (try with_reducible rfl)
        (try simp only [Act.put, List.setIfInBounds_toArray, List.set_cons_zero, List.set_cons_succ])
        refine wpAnyG_cast (Lst 0 false false false) (by kernel_rfl) ?_
        refine app3 (c := (⟨w2, [(tB, 33, #[.slice (some ⟨g1, 0, none⟩) n c1, .slice (some ⟨g2, 0, none⟩) m c2, .slice none 0 0, .slice none 0 0, .slice none 0 0, .int .i64 tk, .string tnum, .string tden, .string ttx, .bool ton, .int .i64 tco, .int .i64 tro, .int .i64 tcl, .slice tA tn tc]), (w2.heap.size, 56, #[(.slice (some ⟨g1, 0, none⟩) n c1), (.slice (some ⟨g2, 0, none⟩) m c2), (.slice (some ⟨g3, 0, none⟩) R c3)])], B, NM + n + m, h1, NM, h2, n, h3, m, H, (fun k => H (NM + k)), (fun k => H (NM + n + k)), z, ⟨ra, rr, rl, ⟨uk, unum, uden, utext, uon, ucode, urows, ucols, uA, un, uc⟩⟩, p + rl, NM + rr, NM + n + rl, H, FF n m (RL.take j)⟩ : Cx)) ?_ ?_ ?_ ?_ ?_ ?_ ?_ ?_ ?_ ?_ ?_ ?_
        · refine ⟨?_, ?_, ?_, ?_, ?_, ?_, ?_, ?_, ?_, ?_, ?_, ?_, ?_, ?_⟩
          · dsimp only; omega
          · dsimp only; omega
          · dsimp only; omega
          · dsimp only; omega
          · dsimp only; omega
          · dsimp only; omega
          · exact fun x => Nat.le_trans (ff_len n m (RL.take j) x) hlen
          · (show 107 < 165; decide)
          · rfl
          · rfl
          · rfl
          · rfl
          · rfl
          · rfl
        · kernel_rfl
        · exact ⟨⟨_, rfl, rfl, rfl, rfl⟩⟩
        · exact ⟨⟨_, rfl, rfl, rfl, rfl⟩⟩
        · exact ⟨⟨_, rfl, rfl, rfl, rfl⟩⟩
        · exact ⟨⟨_, rfl, rfl, rfl, rfl⟩⟩
        · exact ⟨⟨_, rfl, rfl, rfl, rfl⟩⟩
        · exact ⟨⟨_, rfl, rfl, rfl, rfl⟩⟩
        · exact HSS.out
        · exact HBW.out
        · exact HAW.out
        rintro W' ⟨A1, q1, d1⟩ ⟨A2, q2, d2⟩ ⟨A3, q3, d3⟩ b1 b2 b3 a hst
        have HS3 := Lib.hid (show BS w2 W' [(tB, 33, #[.slice (some ⟨g1, 0, none⟩) n c1, .slice (some ⟨g2, 0, none⟩) m c2, .slice none 0 0, .slice none 0 0, .slice none 0 0, .int .i64 tk, .string tnum, .string tden, .string ttx, .bool ton, .int .i64 tco, .int .i64 tro, .int .i64 tcl, .slice tA tn tc]), (w2.heap.size, 56, #[(.slice (some ⟨g1, 0, none⟩) n c1), (.slice (some ⟨g2, 0, none⟩) m c2), (.slice (some ⟨g3, 0, none⟩) R c3)])] B (NM + n + m) h1 NM h2 n h3 m (up (up (up H (p + rl) (A1, q1, d1)) (NM + rr) (A2, q2, d2)) (NM + n + rl) (A3, q3, d3)) _ H (fun k => H (NM + k)) (fun k => H (NM + n + k)) from hst.bs)
        have HP3 := Lib.hid (show Blk W' z 61 #[.int .i64 (ra : Int), .int .i64 (rr : Int), .int .i64 (rl : Int), .int .i64 uk, .string unum, .string uden, .string utext, .bool uon, .int .i64 ucode, .int .i64 urows, .int .i64 ucols, .slice uA un uc] from hst.p.blk)
        obtain rfl := hst.agr.eq (show 107 < 165 by decide) (x90 := .slice (some ⟨b1, 0, none⟩) 1 1) (x91 := .slice A1 q1 d1) (x98 := .slice (some ⟨b2, 0, none⟩) 1 1) (x99 := .slice A2 q2 d2) (x106 := .slice (some ⟨b3, 0, none⟩) 1 1) (x107 := .slice A3 q3 d3) (hst.m1 rfl).1 (hst.t1 (by decide)) (hst.m2 rfl).1 (hst.t2 (by decide)) (hst.m3 rfl).1 (hst.t3 (by decide))
        clear hst
        (try simp only [Act.put, List.setIfInBounds_toArray, List.set_cons_zero, List.set_cons_succ])
        have HZS := Lib.hid (show ∀ W, Blk W z 61 #[.int .i64 (ra : Int), .int .i64 (rr : Int), .int .i64 (rl : Int), .int .i64 uk, .string unum, .string uden, .string utext, .bool uon, .int .i64 ucode, .int .i64 urows, .int .i64 ucols, .slice uA un uc] → (W.cell? ⟨z, 0, none⟩ = some (.int .i64 (ra : Int)) ∧ W.cell? ⟨z, 1, none⟩ = some (.int .i64 (rr : Int)) ∧ W.cell? ⟨z, 2, none⟩ = some (.int .i64 (rl : Int)) ∧ W.cell? ⟨z, 3, none⟩ = some (.int .i64 uk) ∧ W.cell? ⟨z, 4, none⟩ = some (.string unum) ∧ W.cell? ⟨z, 5, none⟩ = some (.string uden) ∧ W.cell? ⟨z, 6, none⟩ = some (.string utext) ∧ W.cell? ⟨z, 7, none⟩ = some (.bool uon) ∧ W.cell? ⟨z, 8, none⟩ = some (.int .i64 ucode) ∧ W.cell? ⟨z, 9, none⟩ = some (.int .i64 urows) ∧ W.cell? ⟨z, 10, none⟩ = some (.int .i64 ucols) ∧ W.cell? ⟨z, 11, none⟩ = some (.slice uA un uc)) from fun W hb => ⟨hb.cell 0, hb.cell 1, hb.cell 2, hb.cell 3, hb.cell 4, hb.cell 5, hb.cell 6, hb.cell 7, hb.cell 8, hb.cell 9, hb.cell 10, hb.cell 11⟩)
        obtain ⟨x1, hx1⟩ := HS3.out.a1.blk
        obtain ⟨x2, hx2⟩ := HS3.out.a2.blk
        obtain ⟨x3, hx3⟩ := HS3.out.a3.blk
        have n1 : z ≠ h1 := Blk.ne_ HP3.out hx1 (by decide)
        have n2 : z ≠ h2 := Blk.ne_ HP3.out hx2 (by decide)
        have n3 : z ≠ h3 := Blk.ne_ HP3.out hx3 (by decide)
        have hT : (W'.cell? ⟨z, 0, none⟩ = some (.int .i64 (ra : Int)) ∧ W'.cell? ⟨z, 1, none⟩ = some (.int .i64 (rr : Int)) ∧ W'.cell? ⟨z, 2, none⟩ = some (.int .i64 (rl : Int)) ∧ W'.cell? ⟨z, 3, none⟩ = some (.int .i64 uk) ∧ W'.cell? ⟨z, 4, none⟩ = some (.string unum) ∧ W'.cell? ⟨z, 5, none⟩ = some (.string uden) ∧ W'.cell? ⟨z, 6, none⟩ = some (.string utext) ∧ W'.cell? ⟨z, 7, none⟩ = some (.bool uon) ∧ W'.cell? ⟨z, 8, none⟩ = some (.int .i64 ucode) ∧ W'.cell? ⟨z, 9, none⟩ = some (.int .i64 urows) ∧ W'.cell? ⟨z, 10, none⟩ = some (.int .i64 ucols) ∧ W'.cell? ⟨z, 11, none⟩ = some (.slice uA un uc)) ∧ ((Lst 3 true true true).getD 32 false = true ∨ (W'.cell? ⟨h1, p + rl, none⟩ = some (sv3 (H (p + rl))) ∧ W'.cell? ⟨h2, rr, none⟩ = some (sv3 (H (NM + rr))) ∧ W'.cell? ⟨h3, rl, none⟩ = some (sv3 (H (NM + n + rl))))) := ⟨HZS.out _ HP3.out, .inr ⟨HS3.out.a1.cell hpm, HS3.out.a2.cell hrow, HS3.out.a3.cell hcol⟩⟩
        have t1 := HS3.out.set1 HJ.out.d12 HJ.out.d13 (p + rl) (A1, q1, d1)
        have t2 := t1.rot.set1 HJ.out.d23 (Ne.symm HJ.out.d12) rr (A2, q2, d2)
        have a1 : W'.cell? ⟨h1, p + rl, none⟩ = some (sv3 (H (p + rl))) := HS3.out.a1.cell hpm
        have y1 := HS3.out.a1.frozen (p + rl)
        have a2 : (W'.setCell ⟨h1, p + rl, none⟩ (.slice A1 q1 d1)).cell? ⟨h2, rr, none⟩ = some (sv3 (H (NM + rr))) := t1.a2.cell hrow
        have y2 : (W'.setCell ⟨h1, p + rl, none⟩ (.slice A1 q1 d1)).frozen? ⟨h2, rr, none⟩ = false := t1.a2.frozen rr
        have a3 : ((W'.setCell ⟨h1, p + rl, none⟩ (.slice A1 q1 d1)).setCell ⟨h2, rr, none⟩ (.slice A2 q2 d2)).cell? ⟨h3, rl, none⟩ = some (sv3 (H (NM + n + rl))) := t2.a2.cell hcol
        have y3 : ((W'.setCell ⟨h1, p + rl, none⟩ (.slice A1 q1 d1)).setCell ⟨h2, rr, none⟩ (.slice A2 q2 d2)).frozen? ⟨h3, rl, none⟩ = false := t2.a2.frozen rl
        clear t1 t2 hx1 hx2 hx3
        refine wpAnyG_take1d (i := 31) (v := ?_) rfl rfl (by kernel_rfl) (by kernel_rfl) (by kernel_rfl) (by kernel_rfl) (fun _ _ _ h => h) (Or.inl ⟨by rfl, ?_⟩) (by assumption) (fun hT => ?_)
        rotate_left
        · intro w hSw
          (try dsimp only at hSw)
          go_simp
          (try with_reducible rfl)
        (try simp only [Act.put, List.setIfInBounds_toArray, List.set_cons_zero, List.set_cons_succ])
        refine wpAnyG_ready (rs := [32]) (by kernel_rfl) (by simp) ?_
        refine AllG.cons (i := 32) rfl (fun K hK => ?_) AllG.nil
        go_simp
        refine hK.out _ _ ⟨HZS.out _ (HP3.out.far n1 _), .inl rfl⟩ (fun hT => ?_)
        clear hK K
        (try simp only [Act.put, List.setIfInBounds_toArray, List.set_cons_zero, List.set_cons_succ])
        refine wpAnyG_take1d (i := 33) (v := ?_) rfl rfl (by kernel_rfl) (by kernel_rfl) (by kernel_rfl) (by kernel_rfl) (fun _ _ _ h => h) (Or.inl ⟨by rfl, ?_⟩) (by assumption) (fun hT => ?_)
        rotate_left
        · intro w hSw
          (try dsimp only at hSw)
          go_simp
          (try with_reducible rfl)
        (try simp only [Act.put, List.setIfInBounds_toArray, List.set_cons_zero, List.set_cons_succ])
        refine wpAnyG_ready (rs := [34]) (by kernel_rfl) (by simp) ?_
        refine AllG.cons (i := 34) rfl (fun K hK => ?_) AllG.nil
        go_simp
        refine hK.out _ _ ⟨HZS.out _ ((HP3.out.far n1 _).far n2 _), .inl rfl⟩ (fun hT => ?_)
        clear hK K
        (try simp only [Act.put, List.setIfInBounds_toArray, List.set_cons_zero, List.set_cons_succ])
        refine wpAnyG_take1d (i := 35) (v := ?_) rfl rfl (by kernel_rfl) (by kernel_rfl) (by kernel_rfl) (by kernel_rfl) (fun _ _ _ h => h) (Or.inl ⟨by rfl, ?_⟩) (by assumption) (fun hT => ?_)
        rotate_left
        · intro w hSw
          (try dsimp only at hSw)
          go_simp
          (try with_reducible rfl)
        (try simp only [Act.put, List.setIfInBounds_toArray, List.set_cons_zero, List.set_cons_succ])
        refine wpAnyG_ready (rs := [36]) (by kernel_rfl) (by simp) ?_
        refine AllG.cons (i := 36) rfl (fun K hK => ?_) AllG.nil
        go_simp
        refine hK.out _ _ ⟨HZS.out _ (((HP3.out.far n1 _).far n2 _).far n3 _), .inl rfl⟩ (fun hT => ?_)
        clear hK K
        (try simp only [Act.put, List.setIfInBounds_toArray, List.set_cons_zero, List.set_cons_succ])
        refine wpAnyG_done (by kernel_rfl) ?_ _
        go_wp2_with fail
        go_roundw
        case rel => exact ⟨j + 1, _, by omega, by go_num, Lib.hid (HS3.out.put3 HJ.out.d12 HJ.out.d13 HJ.out.d23 hpm hrow fun x hx => by
          have := ff_step n m (RL.take j) ⟨ra, rr, rl, ⟨uk, unum, uden, utext, uon, ucode, urows, ucols, uA, un, uc⟩⟩ hrow hcol x (by rw [← HJ.out.nm]; exact hx)
          dsimp only at this
          rw [← HPP.out, ← HJ.out.nm] at this
          rw [HTK1.out]
          exact this.symm)⟩
        case measure => simp [intOf]; omega
      · have hlz : ¬ (j : Int) < (R : Int) := by omega
        obtain rfl : R = j := by omega
        have HS9 := HS
        rw [HTK.out] at HS9
        go_wp2_with fail
        go_meet
        exact ⟨H, HS9⟩
  case rest =>
    clear HS0 s2c HC HTK HLN
    obtain ⟨H, HS⟩ := hcut
    have hmk := HJ.out.done HS.out
    have HM := Lib.hid hmk.1
    have HL := Lib.hid hmk.2
    have HNM := Lib.hid HJ.out.nm
    clear hmk
    go_step
    exact make16 HM HTT HNM HL
end Go.Proofs.YtmapagbmihpbmaaGreatDoor

namespace Go.Proofs.YtmapagbmihpbmaaGreatDoor
open Go.RowKit

theorem news_reads {α : Type} {size : Nat} {f : α → List Value} {W : World} {b o n c : Nat} {l : List α} (h : Reads size f W (.slice (some ⟨b, o, none⟩) n c) l) (hf : ∀ x, (f x).length = size) (hs : 0 < size) (h0 : 0 < n) : ∀ k u, (l.flatMap f)[k]? = some u → W.cell? ((⟨b, o, none⟩ : Addr).add k) = some u := fun k u hk => by
  obtain ⟨hl, -, hc⟩ := h.lt h0
  have hlen := flat_len f size hf l
  have hkl : k < (l.flatMap f).length := by
    rcases Nat.lt_or_ge k (l.flatMap f).length with h | h
    · exact h
    · rw [List.getElem?_eq_none h] at hk
      cases hk
  rw [hlen] at hkl
  have hi : k / size < l.length := (Nat.div_lt_iff_lt_mul hs).2 hkl
  have hj : k % size < size := Nat.mod_lt _ hs
  have e : k = k / size * size + k % size := by rw [Nat.mul_comm]; exact (Nat.div_add_mod k size).symm
  have h1 := flat_get f size hf l (k / size) (k % size) hi hj
  rw [← e, hk] at h1
  have h2 := hc (k / size) hi (k % size) hj
  rw [← e, ← h1] at h2
  rw [show ((⟨b, o, none⟩ : Addr).add k) = ⟨b, o + k, none⟩ by cases k <;> simp [Addr.add]]
  exact h2
section
variable {ops : Array Oper} {rest : List Oper} {o : Oper} {a : Act} {K : Act → World → Prop} {Q : Exit → Act → World → Prop} {X : Prop}
/-- append of some elements to a row of the call's own. -/
theorem wp_rowN {α : Type} (T E : TypeId) (size bytes : Nat) (f : α → List Value) (z : Value) (hu : Tryz.prog.underlying T = some (.slice E)) (hinfo : (Tryz.prog.info? E).map (fun i => (i.zero, i.size, i.bytes)) = some (some z, size, bytes)) (hzs : z.cells.size = size) (hsz : 0 < size)
    (hf : ∀ x, (f x).length = size ∧ ∀ u ∈ f x, u.oneCell' = true)
    {w : World} (hgd : o.guard = none) (s x : Operand) (ho : o.op = .call { callee := .builtin .append, args := #[s, x], argTypes := #[T, T] })
    (base : Nat) (v : Value) (l : List α) (hs : a.eval s = v) (hown : RowOf E size f w base v l) (m : List α) (b ofs c : Nat) (hx : a.eval x = .slice (some ⟨b, ofs, none⟩) m.length c) (hm : Reads size f w (.slice (some ⟨b, ofs, none⟩) m.length c) m) (h0 : 0 < m.length)
    (hby : (l.length + m.length) * bytes ≤ 140737488355328) (h63 : l.length + m.length ≤ maxLen) (hbase : base ≤ w.heap.size)
    (h : ∀ v' w', RowOf E size f w' base v' (l ++ m) → Below base w w' → w.grownBy w' v.ownBlock → wpList Tryz.prog ops Q rest (a.put o.dst v') w') :
    wpList Tryz.prog ops Q (o :: rest) a w := by
  obtain ⟨i0, hi, hz0, hz1, hz2⟩ := info_parts hinfo
  refine wpList_append_own_at _ hgd s x T ho base E i0 z size bytes hu hi hz0 hz1 hz2 hzs hsz v l.length (l.flatMap f) hs hown ⟨b, ofs, none⟩ m.length c (m.flatMap f) hx (flat_len f size (fun x => (hf x).1) m) (news_reads hm (fun x => (hf x).1) hsz h0) (fun u hu => by
    obtain ⟨y, -, hy⟩ := List.mem_flatMap.1 hu
    exact (hf y).2 u hy) h63 hby hbase ?_
  intro v' w' h1 h2 _ _
  refine h v' w' ?_ ((Below.refl _ _).grown h2 hbase (fun k hk => ((World.ownsRow.lt hown) k hk).1)) h2
  unfold RowOf
  rw [List.flatMap_append, List.length_append]
  exact h1
/-- The same at a step of a region that draws; which block grows. -/
theorem step_rowN {α : Type} (T E : TypeId) (size bytes : Nat) (f : α → List Value) (z : Value) (hu : Tryz.prog.underlying T = some (.slice E)) (hinfo : (Tryz.prog.info? E).map (fun i => (i.zero, i.size, i.bytes)) = some (some z, size, bytes)) (hzs : z.cells.size = size) (hsz : 0 < size)
    (hf : ∀ x, (f x).length = size ∧ ∀ u ∈ f x, u.oneCell' = true)
    {w : World} (hgd : o.guard = none) (s x : Operand) (ho : o.op = .call { callee := .builtin .append, args := #[s, x], argTypes := #[T, T] })
    (base : Nat) (v : Value) (l : List α) (hs : a.eval s = v) (hown : RowOf E size f w base v l) (m : List α) (b ofs c : Nat) (hx : a.eval x = .slice (some ⟨b, ofs, none⟩) m.length c) (hm : Reads size f w (.slice (some ⟨b, ofs, none⟩) m.length c) m) (h0 : 0 < m.length)
    (hby : (l.length + m.length) * bytes ≤ 140737488355328) (h63 : l.length + m.length ≤ maxLen) (hbase : base ≤ w.heap.size)
    (h : ∀ g cap w', RowOf E size f w' base (.slice (some ⟨g, 0, none⟩) (l.length + m.length) cap) (l ++ m) → Below base w w' → w.grownBy w' v.ownBlock → K (a.put o.dst (.slice (some ⟨g, 0, none⟩) (l.length + m.length) cap)) w') :
    if Region.wanted o (yielded ops a.tmps) = true then Oper.wp Tryz.prog o a w K Q else X := by
  obtain ⟨i0, hi, hz0, hz1, hz2⟩ := info_parts hinfo
  refine step_append_lies (P := Tryz.prog) w hgd s x T ho base E i0 z size bytes hu hi hz0 hz1 hz2 hzs hsz v l.length (l.flatMap f) hs hown ⟨b, ofs, none⟩ m.length c (m.flatMap f) hx (flat_len f size (fun x => (hf x).1) m) (news_reads hm (fun x => (hf x).1) hsz h0) (fun u hu => by
    obtain ⟨y, -, hy⟩ := List.mem_flatMap.1 hu
    exact (hf y).2 u hy) h0 h63 hby hbase _ rfl ?_
  intro g cap w' h1 h2 _ _
  refine h g cap w' ?_ ((Below.refl _ _).grown h2 hbase (fun k hk => ((World.ownsRow.lt hown) k hk).1)) h2
  unfold RowOf
  rw [List.flatMap_append, List.length_append]
  exact h1
end
/-- An empty literal of values. -/
theorem row_lit0 (w : World) : RowOf 27 9 csV (w.alloc (.cells #[] 27)) w.heap.size (.slice (some ⟨w.heap.size, 0, none⟩) 0 0) [] := by
  refine ⟨rfl, .inr ⟨w.heap.size, 0, #[], rfl, Nat.le_refl _, Blk.new w _ _, ?_, ?_, ?_, ?_⟩⟩
  all_goals first | rfl | decide | simp
set_option maxRecDepth 100000 in
set_option maxHeartbeats 4000000 in
theorem cloneV_any (b ofs n c : Nat) (l : List Vl) (w : World) (hL : Reads 9 csV w (.slice (some ⟨b, ofs, none⟩) n c) l) (h1 : 1 ≤ n) (hn : n ≤ 1000) :
    Calls Tryz.prog 11 #[.slice (some ⟨b, ofs, none⟩) n c] w fun e w' => ∃ v', e = .returned v' ∧ RowOf 27 9 csV w' w.heap.size v' l ∧ Below w.heap.size w w' := by
  have hl := (hL.lt (by omega)).1
  subst hl
  have hq : ∀ W : World, (binOp .eql 25 (.slice (some ⟨b, ofs, none⟩) l.length c) (.slice none 0 0)).run Tryz.prog W = .ok (.bool false) W := fun W => Lib.run_eql_slice_nil (P := Tryz.prog) W 25 27 (some ⟨b, ofs, none⟩) l.length c 0 0 Tryz.underlying25
  have HK := Lib.hid (hL.below ((Below.refl _ w).alloc (Nat.le_refl _) (.cells #[] 27)))
  clear hL
  go_enter Tryz.func11, Tryz.ntmps11
  go_wp2_with (at_builtin; refine wp_rowN 25 27 9 112 csV _ Tryz.underlying25 val_info rfl (by decide) csV_one rfl (.tmp 5) (.tmp 6) rfl w.heap.size _ [] rfl (row_lit0 w) l b ofs c rfl HK.out (by omega) ?_ ?_ ?_ ?_; (simp; omega); (unfold maxLen; simp; omega); (simp); intro v1 w1 ho1 hb1 hg1)
  go_ret
  exact ⟨v1, rfl, by simpa using ho1, ((Below.refl _ _).alloc (Nat.le_refl _) _).trans hb1⟩
end Go.Proofs.YtmapagbmihpbmaaGreatDoor
