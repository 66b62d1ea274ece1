/- pivot.Make: what its last loops know: the headers of the groups, the table under way. -/
import Derived.Test.YtmapagbmihpbmaaGreatDoorPvU5
import Derived.Test.YtmapagbmihpbmaaGreatDoorGt
import Derived.Test.YtmapagbmihpbmaaGreatDoorGc
import Derived.Deep.Cut
import Derived.Deep.CutBlock
set_option linter.unusedSimpArgs false
set_option linter.unusedVariables false
namespace Go.Proofs.YtmapagbmihpbmaaGreatDoor
open Go.RowKit

/-- A number as a value's cells. -/
abbrev n9 (t : ByteArray) : Array Value := #[.int .i64 1, .string t, .string ⟨#[49]⟩, .string ⟨#[]⟩, .bool false, .int .i64 0, .int .i64 0, .int .i64 0, .slice none 0 0]
abbrev z9 : Array Value := #[.int .i64 0, .string ⟨#[]⟩, .string ⟨#[]⟩, .string ⟨#[]⟩, .bool false, .int .i64 0, .int .i64 0, .int .i64 0, .slice none 0 0]
abbrev z14 : Array Value := #[.slice none 0 0, .slice none 0 0, .slice none 0 0, .slice none 0 0, .slice none 0 0, .int .i64 0, .string ⟨#[]⟩, .string ⟨#[]⟩, .string ⟨#[]⟩, .bool false, .int .i64 0, .int .i64 0, .int .i64 0, .slice none 0 0]
/-- What a cell of the table holds. -/
def cellV (N : Rm → Nat) (how : Int) (L : List Rm) (m x : Nat) : Vl := if (grM L (x / m) (x % m)).length = 0 then zV else nV (resN N how (grM L (x / m) (x % m)))
def rowV (N : Rm → Nat) (how : Int) (L : List Rm) (i : Nat) : Vl := nV (resN N how (Pv.gr1 Rm.row L i))
def colV (N : Rm → Nat) (how : Int) (L : List Rm) (k : Nat) : Vl := nV (resN N how (Pv.gr1 Rm.col L k))
/-- What Make answers, its keys and records given. -/
def MakeR (n m : Nat) (K1 K2 : List Vl) (RL : List Rm) (N : Rm → Nat) (how : Int) (w : World) (e : Ending) (w' : World) : Prop :=
  ∃ (g1 c1 g2 c2 : Nat) (A3 : Option Addr) (c3 : Nat) (A4 : Option Addr) (c4 : Nat) (A5 : Option Addr) (c5 : Nat),
    e = .returned (.tuple #[.agg #[.slice (some ⟨g1, 0, none⟩) n c1, .slice (some ⟨g2, 0, none⟩) m c2, .slice A3 (n * m) c3, .slice A4 n c4, .slice A5 m c5,
      .int .i64 1, .string (nt (resN N how RL)), .string ⟨#[49]⟩, .string ⟨#[]⟩, .bool false, .int .i64 0, .int .i64 0, .int .i64 0, .slice none 0 0], .int .i64 0]) ∧
    KT w' (.slice (some ⟨g1, 0, none⟩) n c1) K1 ∧ KT w' (.slice (some ⟨g2, 0, none⟩) m c2) K2 ∧
    Reads 9 csV w' (.slice A3 (n * m) c3) ((List.range (n * m)).map (cellV N how RL m)) ∧
    Reads 9 csV w' (.slice A4 n c4) ((List.range n).map (rowV N how RL)) ∧
    Reads 9 csV w' (.slice A5 m c5) ((List.range m).map (colV N how RL)) ∧
    Below w.heap.size w w'
/-- What the last loops of Make know. -/
structure Mk (w wz : World) (L1 : List (Nat × TypeId × Array Value)) (tB h1 h2 h3 n m : Nat) (RL : List Rm) (s1 s2 : Value) (K1 K2 : List Vl) (N : Rm → Nat) (how : Int) : Prop where
  env : VEnv w
  res : ∀ (A : Option Addr) (q c : Nat) (L : List Rm) W, VEnv W → Reads 12 rmC W (.slice A q c) L → q ≤ 14 → (∀ r ∈ L, r ∈ RL) → Calls Tryz.prog 19 #[.slice A q c, .int .i64 how] W fun e w' => e = .returned (.agg (n9 (nt (resN N how L)))) ∧ Below W.heap.size W w'
  hd1 : ∀ k, k < n * m → ∃ A c, ∀ W, Chg wz.heap.size [tB] wz W → W.cell? ⟨h1, k, none⟩ = some (.slice A (grM RL (k / m) (k % m)).length c) ∧ Reads 12 rmC W (.slice A (grM RL (k / m) (k % m)).length c) (grM RL (k / m) (k % m))
  hd2 : ∀ i, i < n → ∃ A c, ∀ W, Chg wz.heap.size [tB] wz W → W.cell? ⟨h2, i, none⟩ = some (.slice A (Pv.gr1 Rm.row RL i).length c) ∧ Reads 12 rmC W (.slice A (Pv.gr1 Rm.row RL i).length c) (Pv.gr1 Rm.row RL i)
  hd3 : ∀ k, k < m → ∃ A c, ∀ W, Chg wz.heap.size [tB] wz W → W.cell? ⟨h3, k, none⟩ = some (.slice A (Pv.gr1 Rm.col RL k).length c) ∧ Reads 12 rmC W (.slice A (Pv.gr1 Rm.col RL k).length c) (Pv.gr1 Rm.col RL k)
  kt : ∀ W, Chg wz.heap.size [tB] wz W → KT W s1 K1 ∧ KT W s2 K2
  ne : ∀ x ∈ L1, x.1 ≠ tB
  lt : ∀ x ∈ L1, x.1 < tB
  ltB : tB < wz.heap.size
  low : w.heap.size ≤ tB
  ask : ∃ q1 q2, (w.heap.size + 1, 30, #[q1, q2, .int .i64 2, .int .i64 how]) ∈ L1
  out : (w.heap.size + 1 + 1, 33, z14) ∈ L1
  len : RL.length ≤ 14
  ln : n ≤ 14
  lm : m ≤ 14
theorem gr1_len {α : Type} (g : α → Nat) (l : List α) (i : Nat) : (Pv.gr1 g l i).length ≤ l.length := by
  unfold Pv.gr1
  exact List.length_filter_le _ _
theorem gr1_mem {α : Type} (g : α → Nat) (l : List α) (i : Nat) : ∀ r ∈ Pv.gr1 g l i, r ∈ l := fun r h => by
  unfold Pv.gr1 at h
  exact (List.mem_filter.1 h).1
theorem grM_len (l : List Rm) (i k : Nat) : (grM l i k).length ≤ l.length := by
  unfold grM Pv.gr
  exact List.length_filter_le _ _
theorem grM_mem (l : List Rm) (i k : Nat) : ∀ r ∈ grM l i k, r ∈ l := fun r h => by
  unfold grM Pv.gr at h
  exact (List.mem_filter.1 h).1
abbrev RV (W : World) (b : Nat) (v : Value) (l : List Vl) : Prop := RowOf 27 9 csV W b v l
/-- The table under way: one of its rows grows, others are whole. -/
structure LS (w wz W : World) (L1 : List (Nat × TypeId × Array Value)) (tB : Nat) (tc : Array Value) (B : Nat) (v : Value) (l : List Vl) (F : List (Value × List Vl)) : Prop where
  loc : Loc w ((tB, 33, tc) :: L1) W
  row : RV W B v l
  chg : Chg wz.heap.size [tB] wz W
  base : B ≤ W.heap.size
  le : wz.heap.size ≤ B
  fin : ∀ p ∈ F, RV W wz.heap.size p.1 p.2 ∧ ∀ g, p.1.ownBlock = some g → g < B
section
variable {w wz W W' : World} {L1 : List (Nat × TypeId × Array Value)} {tB h1 h2 h3 n m : Nat} {RL : List Rm} {s1 s2 : Value} {K1 K2 : List Vl} {N : Rm → Nat} {how : Int} {tc : Array Value} {B : Nat} {v : Value} {l : List Vl} {F : List (Value × List Vl)}
theorem LS.step (h : LS w wz W L1 tB tc B v l F) (hb : Below W.heap.size W W') : LS w wz W' L1 tB tc B v l F :=
  ⟨h.loc.step hb, RowOf.later h.row hb, h.chg.trans (Chg.of (hb.mono h.chg.size) [tB]), Nat.le_trans h.base hb.size, h.le, fun p hp => ⟨RowOf.later (h.fin p hp).1 hb, (h.fin p hp).2⟩⟩
theorem LS.drew (h : LS w wz W L1 tB tc B v l F) : LS w wz W.drew L1 tB tc B v l F := ⟨h.loc.drew, RowOf.drew h.row, h.chg.drew, h.base, h.le, fun p hp => ⟨RowOf.drew (h.fin p hp).1, (h.fin p hp).2⟩⟩
theorem LS.alloc (h : LS w wz W L1 tB tc B v l F) (o : Obj) : LS w wz (W.alloc o) L1 tB tc B v l F := h.step ((Below.refl _ _).alloc (Nat.le_refl _) _)
theorem LS.bel (h : LS w wz W L1 tB tc B v l F) : Below w.heap.size w W := h.loc.bel
/-- The next row begins. -/
theorem LS.next (h : LS w wz W L1 tB tc B v l F) : LS w wz W L1 tB tc W.heap.size (.slice none 0 0) [] ((v, l) :: F) :=
  ⟨h.loc, RowOf.nil _ _, h.chg, Nat.le_refl _, h.chg.size, fun p hp => by
    rcases List.mem_cons.1 hp with rfl | hp
    · exact ⟨RowOf.mono h.row h.le, fun g hg => (RowOf.lt h.row g hg).2⟩
    · exact ⟨(h.fin p hp).1, fun g hg => Nat.lt_of_lt_of_le ((h.fin p hp).2 g hg) h.base⟩⟩
theorem LS.ask (hm : Mk w wz L1 tB h1 h2 h3 n m RL s1 s2 K1 K2 N how) (h : Loc w ((tB, 33, tc) :: L1) W) : W.cell? ⟨w.heap.size + 1, 3, none⟩ = some (.int .i64 how) := by
  obtain ⟨q1, q2, hq⟩ := hm.ask
  exact (h.blk (List.mem_cons_of_mem _ hq)).cell 3
/-- The row is grown: what the table's cell holds till then. -/
theorem LS.grown (hm : Mk w wz L1 tB h1 h2 h3 n m RL s1 s2 K1 K2 N how) (h : LS w wz W L1 tB tc B v l F) (hb : Below B W W') {nv : Value} {l' : List Vl} (ho : RV W' B nv l') : LS w wz W' L1 tB tc B nv l' F :=
  ⟨h.loc.stepB' hb (Nat.le_trans hm.low (Nat.le_trans (Nat.le_of_lt hm.ltB) h.le)) (fun x hx => by
    have h1 := hm.ltB
    have h2 := h.le
    rcases List.mem_cons.1 hx with rfl | hx
    · exact Nat.lt_of_lt_of_le h1 h2
    · have := hm.lt x hx
      omega), ho, h.chg.trans (Chg.of (hb.mono h.le) [tB]), Nat.le_trans h.base hb.size, h.le, fun p hp => ⟨RowOf.chg (h.fin p hp).1 (Chg.of hb []) (fun g hg => ⟨(h.fin p hp).2 g hg, by simp⟩), (h.fin p hp).2⟩⟩
/-- A cell of the table is put. -/
theorem LS.put (hm : Mk w wz L1 tB h1 h2 h3 n m RL s1 s2 K1 K2 N how) (h : LS w wz W L1 tB tc B v l F) (i : Nat) (u : Value) : LS w wz (W.setCell ⟨tB, i, none⟩ u) L1 tB (tc.setIfInBounds i u) B v l F := by
  have hB := hm.ltB
  have hle := h.le
  have far : ∀ {B' : Nat} {v' : Value} {l' : List Vl}, wz.heap.size ≤ B' → RV W B' v' l' → RV (W.setCell ⟨tB, i, none⟩ u) B' v' l' := fun hB' ho => RowOf.far ho (fun k hk e => by
    have h1 := (RowOf.lt ho k hk).1
    have e : k = tB := e
    omega) u
  refine ⟨h.loc.set1 (i := i) hm.ne u, far h.le h.row, h.chg.set (p := ⟨tB, i, none⟩) (.inl (List.mem_singleton.2 rfl)) u, ?_, h.le, fun p hp => ⟨far (Nat.le_refl _) (h.fin p hp).1, (h.fin p hp).2⟩⟩
  have := h.base
  simpa [World.setCell] using this
end
end Go.Proofs.YtmapagbmihpbmaaGreatDoor

namespace Go.Proofs.YtmapagbmihpbmaaGreatDoor
open Go.RowKit

/-- Whether a code begins with region n. -/
def regIs (n : Nat) : Code → Bool
  | .region m _ _ => Nat.beq m n
  | .seq a _ => regIs n a
  | .block _ c => regIs n c
  | _ => false
/-- What follows from region n on. -/
def contAt (n : Nat) : Code → Option Code
  | .seq a b => match regIs n b with
    | true => some b
    | false => match contAt n a with
      | some c => some c
      | none => contAt n b
  | .block _ c => contAt n c
  | .loop c => contAt n c
  | _ => none
noncomputable def mrest29 : Code := ((Tryz.f6.body.bind (contAt 29)).getD .skip)
set_option maxRecDepth 100000 in
set_option maxHeartbeats 40000000 in
theorem make29 {u0 u1 u2 u5 u6 u7 u8 u9 u11 u12 u14 u15 u16 u17 u18 u19 u20 u21 u22 u23 u24 u25 u26 u27 u28 u29 u30 u31 u32 u33 u34 u35 u36 u37 u38 u39 u40 u41 u42 u43 u44 u45 u46 u47 u48 u49 u50 u51 u52 u53 u54 u55 u56 u57 u58 u59 u60 u61 u62 u63 u64 u65 u66 u67 u68 u69 u70 u71 u72 u73 u74 u75 u76 u77 u78 u79 u80 u81 u82 u83 u84 u85 u86 u87 u88 u89 u90 u91 u92 u93 u94 u95 u96 u97 u98 u99 u100 u101 u102 u103 u104 u105 u106 u107 u108 u109 u110 u111 u112 u113 u114 u115 u116 u117 u118 u119 u120 u121 u122 u123 u124 u125 u126 u127 u128 u129 u130 u131 u132 u133 u134 u135 u136 u137 u138 u139 u140 u141 u142 u143 u144 u145 u146 u147 u148 u149 u150 u151 u152 u153 u154 u155 u156 u157 u158 u159 u160 u161 u162 u163 u164 : Value} {w wz wr : World} {L1 : List (Nat × TypeId × Array Value)} {tB h1 h2 h3 n m : Nat} {RL : List Rm} {g1 c1 g2 c2 : Nat} {tt : ByteArray} {K1 K2 : List Vl} {N : Rm → Nat} {how : Int} {A3 A4 : Option Addr} {c3 c4 : Nat} (HM : Hid (Mk w wz L1 tB h1 h2 h3 n m RL (.slice (some ⟨g1, 0, none⟩) n c1) (.slice (some ⟨g2, 0, none⟩) m c2) K1 K2 N how)) (HTT : Hid (tt = nt (resN N how RL))) (HL : Hid (LS w wz wr L1 tB #[.slice (some ⟨g1, 0, none⟩) n c1, .slice (some ⟨g2, 0, none⟩) m c2, .slice A3 (n * m) c3, .slice A4 n c4, .slice none 0 0, .int .i64 1, .string tt, .string ⟨#[49]⟩, .string ⟨#[]⟩, .bool false, .int .i64 0, .int .i64 0, .int .i64 0, .slice none 0 0] wr.heap.size (.slice none 0 0) [] [(.slice A4 n c4, (List.range n).map (rowV N how RL)), (.slice A3 (n * m) c3, (List.range (n * m)).map (cellV N how RL m))])) :
    Code.wp Tryz.prog mrest29 (bodyPost Tryz.prog Tryz.f6 (MakeR n m K1 K2 RL N how w)) ⟨#[u0, u1, u2, .pointer (some ⟨w.heap.size + 1, 0, none⟩), .pointer (some ⟨w.heap.size + 1 + 1, 0, none⟩), u5, u6, u7, u8, u9, .pointer (some ⟨tB, 0, none⟩), u11, u12, .slice (some ⟨h3, 0, none⟩) m m, u14, u15, u16, u17, u18, u19, u20, u21, u22, u23, u24, u25, u26, u27, u28, u29, u30, u31, u32, u33, u34, u35, u36, u37, u38, u39, u40, u41, u42, u43, u44, u45, u46, u47, u48, u49, u50, u51, u52, u53, u54, u55, u56, u57, u58, u59, u60, u61, u62, u63, u64, u65, u66, u67, u68, u69, u70, u71, u72, u73, u74, u75, u76, u77, u78, u79, u80, u81, u82, u83, u84, u85, u86, u87, u88, u89, u90, u91, u92, u93, u94, u95, u96, u97, u98, u99, u100, u101, u102, u103, u104, u105, u106, u107, u108, u109, u110, u111, u112, u113, u114, u115, u116, u117, u118, u119, u120, u121, u122, u123, u124, u125, u126, u127, u128, u129, u130, u131, u132, u133, u134, u135, u136, u137, u138, u139, u140, u141, u142, u143, u144, u145, u146, u147, u148, u149, u150, u151, u152, u153, u154, u155, u156, u157, u158, u159, u160, u161, u162, u163, u164], []⟩ wr := by
  conv => arg 2; whnf
  conv => arg 4; zeta
  go_wp2_with fail
  have HB0 := Lib.hid (show wr.heap.size = wr.heap.size from rfl)
  obtain ⟨B, hB⟩ : ∃ B, B = wr.heap.size := ⟨_, rfl⟩
  rw [← hB] at HL
  clear hB HB0
  go_loopw [150] (fun u150 wx => ∃ (i : Nat) (v : Value), i ≤ m ∧ u150 = .int .i64 i ∧ Hid (LS w wz wx L1 tB #[.slice (some ⟨g1, 0, none⟩) n c1, .slice (some ⟨g2, 0, none⟩) m c2, .slice A3 (n * m) c3, .slice A4 n c4, v, .int .i64 1, .string tt, .string ⟨#[49]⟩, .string ⟨#[]⟩, .bool false, .int .i64 0, .int .i64 0, .int .i64 0, .slice none 0 0] B v ((List.range i).map (colV N how RL)) [(.slice A4 n c4, (List.range n).map (rowV N how RL)), (.slice A3 (n * m) c3, (List.range (n * m)).map (cellV N how RL m))])) (fun u _ => m - (intOf u).toNat)
  case atStart => exact ⟨0, .slice none 0 0, by omega, rfl, HL⟩
  case round =>
    clear HL
    obtain ⟨i, v, hi, rfl, HL⟩ := hrel
    have hn14 := HM.out.ln
    have hm14 := HM.out.lm
    by_cases hlt : i < m
    · have hlz : (i : Int) < (m : Int) := by omega
      obtain ⟨A, c, hcl⟩ := HM.out.hd3 i hlt
      obtain ⟨t, ht⟩ : ∃ t, t = nt (resN N how (Pv.gr1 Rm.col RL i)) := ⟨_, rfl⟩
      have HRC := Lib.hid (show ∀ W, Loc w ((tB, 33, #[.slice (some ⟨g1, 0, none⟩) n c1, .slice (some ⟨g2, 0, none⟩) m c2, .slice A3 (n * m) c3, .slice A4 n c4, v, .int .i64 1, .string tt, .string ⟨#[49]⟩, .string ⟨#[]⟩, .bool false, .int .i64 0, .int .i64 0, .int .i64 0, .slice none 0 0]) :: L1) W → Chg wz.heap.size [tB] wz W → Calls Tryz.prog 19 #[.slice A (Pv.gr1 Rm.col RL i).length c, .int .i64 how] W fun e w' => e = .returned (.agg #[.int .i64 1, .string t, .string ⟨#[49]⟩, .string ⟨#[]⟩, .bool false, .int .i64 0, .int .i64 0, .int .i64 0, .slice none 0 0]) ∧ Below W.heap.size W w' from fun W h1 h2 => by
        rw [ht]
        exact HM.out.res A _ c _ W (HM.out.env.below h1.bel) (hcl W h2).2 (Nat.le_trans (gr1_len _ _ _) HM.out.len) (gr1_mem _ _ _))
      have e0 : wr.cell? ⟨h3, i, none⟩ = some (.slice A (Pv.gr1 Rm.col RL i).length c) := (hcl wr HL.out.chg).1
      obtain ⟨q, hq⟩ : ∃ q, q = (Pv.gr1 Rm.col RL i).length := ⟨_, rfl⟩
      rw [← hq] at HRC e0
      have HCS := Lib.hid (show (#[.int .i64 1, .string t, .string ⟨#[49]⟩, .string ⟨#[]⟩, .bool false, .int .i64 0, .int .i64 0, .int .i64 0, .slice none 0 0] : Array Value).toList = csV (colV N how RL i) from by rw [ht]; rfl)
      clear hcl hq ht
      have HS1 := Lib.hid (show ∀ W, Loc w ((tB, 33, #[.slice (some ⟨g1, 0, none⟩) n c1, .slice (some ⟨g2, 0, none⟩) m c2, .slice A3 (n * m) c3, .slice A4 n c4, v, .int .i64 1, .string tt, .string ⟨#[49]⟩, .string ⟨#[]⟩, .bool false, .int .i64 0, .int .i64 0, .int .i64 0, .slice none 0 0]) :: L1) W → W.cell? ⟨w.heap.size + 1, 3, none⟩ = some (.int .i64 how) from fun W h => LS.ask HM.out h)
      have HS2 := Lib.hid (show ∀ W, Loc w ((tB, 33, #[.slice (some ⟨g1, 0, none⟩) n c1, .slice (some ⟨g2, 0, none⟩) m c2, .slice A3 (n * m) c3, .slice A4 n c4, v, .int .i64 1, .string tt, .string ⟨#[49]⟩, .string ⟨#[]⟩, .bool false, .int .i64 0, .int .i64 0, .int .i64 0, .slice none 0 0]) :: L1) W → W.cell? ⟨tB, 4, none⟩ = some v from fun W h => (h.blk (g := tB) (t := 33) (List.mem_cons_self ..)).cell 4)
      obtain ⟨l, hl⟩ : ∃ l, l = (List.range i).map (colV N how RL) := ⟨_, rfl⟩
      have hll : l.length = i := by rw [hl, List.length_map, List.length_range]
      have HSN := Lib.hid (show (List.range (i + 1)).map (colV N how RL) = l ++ [colV N how RL i] from by rw [hl, List.range_succ, List.map_append]; rfl)
      rw [← hl] at HL
      clear hl
      go_upto_region 32 with fail
      refine wp_region_G (S1 := fun W => W.cell? ⟨w.heap.size + 1, 3, none⟩ = some (.int .i64 how)) (S2 := fun W => W.cell? ⟨tB, 4, none⟩ = some v) (d := 9) (by kernel_rfl) (HS1.out _ HL.out.drew.loc) (HS2.out _ HL.out.drew.loc) (fun hT => ?_)
      refine wpAnyG_take1 (i := 0) (v := ?_) rfl (by kernel_rfl) (by kernel_rfl) (by kernel_rfl) (by kernel_rfl) (fun _ _ _ h => h) (Or.inl ⟨by rfl, ?_⟩) (by assumption) (fun hT => ?_)
      rotate_left
      · intro w hSw
        (try dsimp only at hSw)
        go_simp
        (try with_reducible rfl)
      (try simp only [Act.put, List.setIfInBounds_toArray, List.set_cons_zero, List.set_cons_succ])
      refine wpAnyG_take2 (i := 1) (v := ?_) rfl (by kernel_rfl) (by kernel_rfl) (by kernel_rfl) (by kernel_rfl) (by kernel_rfl) (by kernel_rfl) (fun _ _ _ h => h) (Or.inl ⟨by rfl, ?_⟩) (by assumption) (fun hT => ?_)
      rotate_left
      · intro w hSw
        (try dsimp only at hSw)
        go_simp
        (try with_reducible rfl)
      (try simp only [Act.put, List.setIfInBounds_toArray, List.set_cons_zero, List.set_cons_succ])
      refine wpAnyG_take1 (i := 2) (v := ?_) rfl (by kernel_rfl) (by kernel_rfl) (by kernel_rfl) (by kernel_rfl) (fun _ _ _ h => h) (Or.inl ⟨by rfl, ?_⟩) (by assumption) (fun hT => ?_)
      rotate_left
      · intro w hSw
        (try dsimp only at hSw)
        go_simp
        (try with_reducible rfl)
      (try simp only [Act.put, List.setIfInBounds_toArray, List.set_cons_zero, List.set_cons_succ])
      refine wpAnyG_take1 (i := 3) (v := ?_) rfl (by kernel_rfl) (by kernel_rfl) (by kernel_rfl) (by kernel_rfl) (fun _ _ _ h => h) (Or.inl ⟨by rfl, ?_⟩) (by assumption) (fun hT => ?_)
      rotate_left
      · intro w hSw
        (try dsimp only at hSw)
        go_simp
        (try with_reducible rfl)
      (try simp only [Act.put, List.setIfInBounds_toArray, List.set_cons_zero, List.set_cons_succ])
      refine wpAnyG_take1 (i := 4) (v := ?_) rfl (by kernel_rfl) (by kernel_rfl) (by kernel_rfl) (by kernel_rfl) (fun _ _ _ h => h) (Or.inl ⟨by rfl, ?_⟩) (by assumption) (fun hT => ?_)
      rotate_left
      · intro w hSw
        (try dsimp only at hSw)
        go_simp
        (try with_reducible rfl)
      (try simp only [Act.put, List.setIfInBounds_toArray, List.set_cons_zero, List.set_cons_succ])
      refine wpAnyG_ready (rs := [5]) (by kernel_rfl) (by simp) ?_
      refine AllG.cons (i := 5) rfl (fun K hK => ?_) AllG.nil
      go_simp
      go_at_call 19
      with_reducible refine (HRC.out _ HL.out.drew.loc HL.out.drew.chg).mono ?_
      rintro e w1 ⟨rfl, hb⟩
      have HL1 := Lib.hid (HL.out.drew.step hb)
      clear hb
      refine hK.out _ _ ⟨HS1.out _ HL1.out.loc, .inr (HS2.out _ HL1.out.loc)⟩ (fun hT => ?_)
      clear hK K
      (try simp only [Act.put, List.setIfInBounds_toArray, List.set_cons_zero, List.set_cons_succ])
      refine wpAnyG_ready (rs := [6]) (by kernel_rfl) (by simp) ?_
      refine AllG.cons (i := 6) rfl (fun K hK => ?_) AllG.nil
      go_simp
      refine hK.out _ _ ⟨HS1.out _ (HL1.out.alloc _).loc, .inr (HS2.out _ (HL1.out.alloc _).loc)⟩ (fun hT => ?_)
      clear hK K
      (try simp only [Act.put, List.setIfInBounds_toArray, List.set_cons_zero, List.set_cons_succ])
      refine wpAnyG_ready (rs := [7]) (by kernel_rfl) (by simp) ?_
      refine AllG.cons (i := 7) rfl (fun K hK => ?_) AllG.nil
      refine step_row2 25 27 9 112 csV _ Tryz.underlying25 val_info rfl (by decide) csV_one rfl (.tmp 155) (.tmp 160) rfl B v l rfl (HL1.out.alloc _).row (colV N how RL i) w1.heap.size _ HCS.out (Blk.new w1 _ _) rfl (by omega) (by unfold maxLen; omega) (HL1.out.alloc _).base ?_
      intro gx cx w5 ho hb hg hx
      rw [hll] at ho
      have HL5 := Lib.hid (LS.grown HM.out (HL1.out.alloc _) hb ho)
      clear ho hb hg hx
      have r2c := HS2.out _ HL5.out.loc
      have r2f := (HL5.out.loc.blk (g := tB) (t := 33) (List.mem_cons_self ..)).frozen 4
      refine hK.out _ _ ⟨HS1.out _ HL5.out.loc, .inr (HS2.out _ HL5.out.loc)⟩ (fun hT => ?_)
      clear hK K
      (try simp only [Act.put, List.setIfInBounds_toArray, List.set_cons_zero, List.set_cons_succ])
      refine wpAnyG_take1 (i := 8) (v := ?_) rfl (by kernel_rfl) (by kernel_rfl) (by kernel_rfl) (by kernel_rfl) (fun _ _ _ h => h) (Or.inl ⟨by rfl, ?_⟩) (by assumption) (fun hT => ?_)
      rotate_left
      · intro w hSw
        (try dsimp only at hSw)
        go_simp
        (try with_reducible rfl)
      (try simp only [Act.put, List.setIfInBounds_toArray, List.set_cons_zero, List.set_cons_succ])
      refine wpAnyG_ready (rs := [9]) (by kernel_rfl) (by simp) ?_
      refine AllG.cons (i := 9) rfl (fun K hK => ?_) AllG.nil
      go_simp
      have HL6 := Lib.hid (show LS w wz _ L1 tB #[.slice (some ⟨g1, 0, none⟩) n c1, .slice (some ⟨g2, 0, none⟩) m c2, .slice A3 (n * m) c3, .slice A4 n c4, (.slice (some ⟨gx, 0, none⟩) (i + 1) cx), .int .i64 1, .string tt, .string ⟨#[49]⟩, .string ⟨#[]⟩, .bool false, .int .i64 0, .int .i64 0, .int .i64 0, .slice none 0 0] B _ _ [(.slice A4 n c4, (List.range n).map (rowV N how RL)), (.slice A3 (n * m) c3, (List.range (n * m)).map (cellV N how RL m))] from LS.put HM.out HL5.out 4 (.slice (some ⟨gx, 0, none⟩) (i + 1) cx))
      refine hK.out _ _ ⟨LS.ask HM.out HL6.out.loc, .inl rfl⟩ (fun hT => ?_)
      clear hK K
      (try simp only [Act.put, List.setIfInBounds_toArray, List.set_cons_zero, List.set_cons_succ])
      refine wpAnyG_done (by kernel_rfl) ?_ _
      go_wp2_with fail
      go_roundw
      case rel => exact ⟨i + 1, _, by omega, by go_num, Lib.hid (by rw [HSN.out]; exact HL6.out)⟩
      case measure => simp [intOf]; omega
    · have hlz : ¬ (i : Int) < (m : Int) := by omega
      obtain rfl : m = i := by omega
      obtain ⟨A5, c5, hv⟩ := (RowOf.reads HL.out.row csV_len).shape
      rw [List.length_map, List.length_range] at hv
      subst hv
      have hb1 := HL.out.loc.blk (g := tB) (t := 33) (List.mem_cons_self ..)
      have hb0 := HL.out.loc.blk (List.mem_cons_of_mem _ HM.out.out)
      have HB0 := Lib.hid hb0
      obtain ⟨k0, k1, k2, k3, k4, k5, k6, k7, k8, k9, k10, k11, k12, k13⟩ := hb1.fourteen
      obtain ⟨z0, z1, z2, z3, z4, z5, z6, z7, z8, z9, z10, z11, z12, z13⟩ := hb0.fourteen
      obtain ⟨f0, f1, f2, f3, f4, f5, f6, f7, f8, f9, f10, f11, f12, f13⟩ := hb0.fourteenf
      obtain ⟨bs, q0, q1, q2, q3, q4, q5, q6, q7, q8, q9, q10, q11, q12, q13⟩ := hb0.fourteen_set (.slice (some ⟨g1, 0, none⟩) n c1) (.slice (some ⟨g2, 0, none⟩) m c2) (.slice A3 (n * m) c3) (.slice A4 n c4) (.slice A5 m c5) (.int .i64 1) (.string tt) (.string ⟨#[49]⟩) (.string ⟨#[]⟩) (.bool false) (.int .i64 0) (.int .i64 0) (.int .i64 0) (.slice none 0 0)
      have BS := Lib.hid bs
      clear bs hb0 hb1
      go_wp2_with fail
      obtain ⟨q0, q1, q2, q3, q4, q5, q6, q7, q8, q9, q10, q11, q12, q13⟩ := BS.out.fourteen
      refine bodyPost_ret (v := .tuple #[.agg #[.slice (some ⟨g1, 0, none⟩) n c1, .slice (some ⟨g2, 0, none⟩) m c2, .slice A3 (n * m) c3, .slice A4 n c4, .slice A5 m c5, .int .i64 1, .string tt, .string ⟨#[49]⟩, .string ⟨#[]⟩, .bool false, .int .i64 0, .int .i64 0, .int .i64 0, .slice none 0 0], .int .i64 0]) (by simp [results, Tryz.results6, go_sem, q0, q1, q2, q3, q4, q5, q6, q7, q8, q9, q10, q11, q12, q13]) rfl ?_
      have hlow := HM.out.low
      have hne := HM.out.lt _ HM.out.out
      have hltB := HM.out.ltB
      dsimp only at hne
      have hch := fun y0 y1 y2 y3 y4 y5 y6 y7 y8 y9 y10 y11 y12 y13 => (((((((((((((((Chg.refl wr.heap.size [w.heap.size + 1 + 1] wr).set (p := ⟨w.heap.size + 1 + 1, 0, none⟩) (.inl (List.mem_singleton.2 rfl)) y0).set (p := ⟨w.heap.size + 1 + 1, 1, none⟩) (.inl (List.mem_singleton.2 rfl)) y1).set (p := ⟨w.heap.size + 1 + 1, 2, none⟩) (.inl (List.mem_singleton.2 rfl)) y2).set (p := ⟨w.heap.size + 1 + 1, 3, none⟩) (.inl (List.mem_singleton.2 rfl)) y3).set (p := ⟨w.heap.size + 1 + 1, 4, none⟩) (.inl (List.mem_singleton.2 rfl)) y4).set (p := ⟨w.heap.size + 1 + 1, 5, none⟩) (.inl (List.mem_singleton.2 rfl)) y5).set (p := ⟨w.heap.size + 1 + 1, 6, none⟩) (.inl (List.mem_singleton.2 rfl)) y6).set (p := ⟨w.heap.size + 1 + 1, 7, none⟩) (.inl (List.mem_singleton.2 rfl)) y7).set (p := ⟨w.heap.size + 1 + 1, 8, none⟩) (.inl (List.mem_singleton.2 rfl)) y8).set (p := ⟨w.heap.size + 1 + 1, 9, none⟩) (.inl (List.mem_singleton.2 rfl)) y9).set (p := ⟨w.heap.size + 1 + 1, 10, none⟩) (.inl (List.mem_singleton.2 rfl)) y10).set (p := ⟨w.heap.size + 1 + 1, 11, none⟩) (.inl (List.mem_singleton.2 rfl)) y11).set (p := ⟨w.heap.size + 1 + 1, 12, none⟩) (.inl (List.mem_singleton.2 rfl)) y12).set (p := ⟨w.heap.size + 1 + 1, 13, none⟩) (.inl (List.mem_singleton.2 rfl)) y13)
      have hbel := fun y0 y1 y2 y3 y4 y5 y6 y7 y8 y9 y10 y11 y12 y13 => below_fourteen HL.out.bel (g := w.heap.size + 1 + 1) (by omega) y0 y1 y2 y3 y4 y5 y6 y7 y8 y9 y10 y11 y12 y13
      have hty : ∀ g ∈ [w.heap.size + 1 + 1], ∃ t cs, Blk wr g t cs ∧ t ≠ 27 ∧ t ≠ 25 := fun g hg => by
        obtain rfl := List.mem_singleton.1 hg
        exact ⟨_, _, HB0.out, by decide, by decide⟩
      have hkt := HM.out.kt wr HL.out.chg
      have hrd : ∀ {v : Value} {l : List Vl} {W : World}, Chg wr.heap.size [w.heap.size + 1 + 1] wr W → RV wr wz.heap.size v l → Reads 9 csV W v l := fun hc ho => RowOf.reads (RowOf.chg ho hc fun k hk => ⟨(RowOf.lt ho k hk).2, fun hm => by
        have h1 := (RowOf.lt ho k hk).1
        have h2 := List.mem_singleton.1 hm
        omega⟩) csV_len
      have h4 := (HL.out.fin _ (List.mem_cons_self ..)).1
      have h3 := (HL.out.fin _ (List.mem_cons_of_mem _ (List.mem_cons_self ..))).1
      dsimp only at h3 h4
      refine ⟨g1, c1, g2, c2, A3, c3, A4, c4, A5, c5, by rw [← HTT.out], hkt.1.chg (hch _ _ _ _ _ _ _ _ _ _ _ _ _ _) hty, hkt.2.chg (hch _ _ _ _ _ _ _ _ _ _ _ _ _ _) hty, hrd (hch _ _ _ _ _ _ _ _ _ _ _ _ _ _) h3, hrd (hch _ _ _ _ _ _ _ _ _ _ _ _ _ _) h4, hrd (hch _ _ _ _ _ _ _ _ _ _ _ _ _ _) (RowOf.mono HL.out.row HL.out.le), hbel _ _ _ _ _ _ _ _ _ _ _ _ _ _⟩
end Go.Proofs.YtmapagbmihpbmaaGreatDoor

namespace Go.Proofs.YtmapagbmihpbmaaGreatDoor
open Go.RowKit

noncomputable def mrest24 : Code := ((Tryz.f6.body.bind (contAt 24)).getD .skip)
set_option maxRecDepth 100000 in
set_option maxHeartbeats 40000000 in
theorem make24 {u0 u1 u2 u5 u6 u7 u8 u9 u11 u14 u15 u16 u17 u18 u19 u20 u21 u22 u23 u24 u25 u26 u27 u28 u29 u30 u31 u32 u33 u34 u35 u36 u37 u38 u39 u40 u41 u42 u43 u44 u45 u46 u47 u48 u49 u50 u51 u52 u53 u54 u55 u56 u57 u58 u59 u60 u61 u62 u63 u64 u65 u66 u67 u68 u69 u70 u71 u72 u73 u74 u75 u76 u77 u78 u79 u80 u81 u82 u83 u84 u85 u86 u87 u88 u89 u90 u91 u92 u93 u94 u95 u96 u97 u98 u99 u100 u101 u102 u103 u104 u105 u106 u107 u108 u109 u110 u111 u112 u113 u114 u115 u116 u117 u118 u119 u120 u121 u122 u123 u124 u125 u126 u127 u128 u129 u130 u131 u132 u133 u134 u135 u136 u137 u138 u139 u140 u141 u142 u143 u144 u145 u146 u147 u148 u149 u150 u151 u152 u153 u154 u155 u156 u157 u158 u159 u160 u161 u162 u163 u164 : Value} {w wz wr : World} {L1 : List (Nat × TypeId × Array Value)} {tB h1 h2 h3 n m : Nat} {RL : List Rm} {g1 c1 g2 c2 : Nat} {tt : ByteArray} {K1 K2 : List Vl} {N : Rm → Nat} {how : Int} {A3 : Option Addr} {c3 : Nat} (HM : Hid (Mk w wz L1 tB h1 h2 h3 n m RL (.slice (some ⟨g1, 0, none⟩) n c1) (.slice (some ⟨g2, 0, none⟩) m c2) K1 K2 N how)) (HTT : Hid (tt = nt (resN N how RL))) (HL : Hid (LS w wz wr L1 tB #[.slice (some ⟨g1, 0, none⟩) n c1, .slice (some ⟨g2, 0, none⟩) m c2, .slice A3 (n * m) c3, .slice none 0 0, .slice none 0 0, .int .i64 1, .string tt, .string ⟨#[49]⟩, .string ⟨#[]⟩, .bool false, .int .i64 0, .int .i64 0, .int .i64 0, .slice none 0 0] wr.heap.size (.slice none 0 0) [] [(.slice A3 (n * m) c3, (List.range (n * m)).map (cellV N how RL m))])) :
    Code.wp Tryz.prog mrest24 (bodyPost Tryz.prog Tryz.f6 (MakeR n m K1 K2 RL N how w)) ⟨#[u0, u1, u2, .pointer (some ⟨w.heap.size + 1, 0, none⟩), .pointer (some ⟨w.heap.size + 1 + 1, 0, none⟩), u5, u6, u7, u8, u9, .pointer (some ⟨tB, 0, none⟩), u11, .slice (some ⟨h2, 0, none⟩) n n, .slice (some ⟨h3, 0, none⟩) m m, u14, u15, u16, u17, u18, u19, u20, u21, u22, u23, u24, u25, u26, u27, u28, u29, u30, u31, u32, u33, u34, u35, u36, u37, u38, u39, u40, u41, u42, u43, u44, u45, u46, u47, u48, u49, u50, u51, u52, u53, u54, u55, u56, u57, u58, u59, u60, u61, u62, u63, u64, u65, u66, u67, u68, u69, u70, u71, u72, u73, u74, u75, u76, u77, u78, u79, u80, u81, u82, u83, u84, u85, u86, u87, u88, u89, u90, u91, u92, u93, u94, u95, u96, u97, u98, u99, u100, u101, u102, u103, u104, u105, u106, u107, u108, u109, u110, u111, u112, u113, u114, u115, u116, u117, u118, u119, u120, u121, u122, u123, u124, u125, u126, u127, u128, u129, u130, u131, u132, u133, u134, u135, u136, u137, u138, u139, u140, u141, u142, u143, u144, u145, u146, u147, u148, u149, u150, u151, u152, u153, u154, u155, u156, u157, u158, u159, u160, u161, u162, u163, u164], []⟩ wr := by
  conv => arg 2; whnf
  conv => arg 4; zeta
  go_upto_block 4 with fail
  go_cut [] (fun wx => ∃ (A4 : Option Addr) (c4 : Nat), Hid (LS w wz wx L1 tB #[.slice (some ⟨g1, 0, none⟩) n c1, .slice (some ⟨g2, 0, none⟩) m c2, .slice A3 (n * m) c3, .slice A4 n c4, .slice none 0 0, .int .i64 1, .string tt, .string ⟨#[49]⟩, .string ⟨#[]⟩, .bool false, .int .i64 0, .int .i64 0, .int .i64 0, .slice none 0 0] wx.heap.size (.slice none 0 0) [] [(.slice A4 n c4, (List.range n).map (rowV N how RL)), (.slice A3 (n * m) c3, (List.range (n * m)).map (cellV N how RL m))]))
  case first =>
    go_wp2_with fail
    have HB0 := Lib.hid (show wr.heap.size = wr.heap.size from rfl)
    obtain ⟨B, hB⟩ : ∃ B, B = wr.heap.size := ⟨_, rfl⟩
    rw [← hB] at HL
    clear hB HB0
    go_loopw [134] (fun u134 wx => ∃ (i : Nat) (v : Value), i ≤ n ∧ u134 = .int .i64 i ∧ Hid (LS w wz wx L1 tB #[.slice (some ⟨g1, 0, none⟩) n c1, .slice (some ⟨g2, 0, none⟩) m c2, .slice A3 (n * m) c3, v, .slice none 0 0, .int .i64 1, .string tt, .string ⟨#[49]⟩, .string ⟨#[]⟩, .bool false, .int .i64 0, .int .i64 0, .int .i64 0, .slice none 0 0] B v ((List.range i).map (rowV N how RL)) [(.slice A3 (n * m) c3, (List.range (n * m)).map (cellV N how RL m))])) (fun u _ => n - (intOf u).toNat)
    case atStart => exact ⟨0, .slice none 0 0, by omega, rfl, HL⟩
    case round =>
      clear HL
      obtain ⟨i, v, hi, rfl, HL⟩ := hrel
      have hn14 := HM.out.ln
      have hm14 := HM.out.lm
      by_cases hlt : i < n
      · have hlz : (i : Int) < (n : Int) := by omega
        obtain ⟨A, c, hcl⟩ := HM.out.hd2 i hlt
        obtain ⟨t, ht⟩ : ∃ t, t = nt (resN N how (Pv.gr1 Rm.row RL i)) := ⟨_, rfl⟩
        have HRC := Lib.hid (show ∀ W, Loc w ((tB, 33, #[.slice (some ⟨g1, 0, none⟩) n c1, .slice (some ⟨g2, 0, none⟩) m c2, .slice A3 (n * m) c3, v, .slice none 0 0, .int .i64 1, .string tt, .string ⟨#[49]⟩, .string ⟨#[]⟩, .bool false, .int .i64 0, .int .i64 0, .int .i64 0, .slice none 0 0]) :: L1) W → Chg wz.heap.size [tB] wz W → Calls Tryz.prog 19 #[.slice A (Pv.gr1 Rm.row RL i).length c, .int .i64 how] W fun e w' => e = .returned (.agg #[.int .i64 1, .string t, .string ⟨#[49]⟩, .string ⟨#[]⟩, .bool false, .int .i64 0, .int .i64 0, .int .i64 0, .slice none 0 0]) ∧ Below W.heap.size W w' from fun W h1 h2 => by
          rw [ht]
          exact HM.out.res A _ c _ W (HM.out.env.below h1.bel) (hcl W h2).2 (Nat.le_trans (gr1_len _ _ _) HM.out.len) (gr1_mem _ _ _))
        have e0 : wr.cell? ⟨h2, i, none⟩ = some (.slice A (Pv.gr1 Rm.row RL i).length c) := (hcl wr HL.out.chg).1
        obtain ⟨q, hq⟩ : ∃ q, q = (Pv.gr1 Rm.row RL i).length := ⟨_, rfl⟩
        rw [← hq] at HRC e0
        have HCS := Lib.hid (show (#[.int .i64 1, .string t, .string ⟨#[49]⟩, .string ⟨#[]⟩, .bool false, .int .i64 0, .int .i64 0, .int .i64 0, .slice none 0 0] : Array Value).toList = csV (rowV N how RL i) from by rw [ht]; rfl)
        clear hcl hq ht
        have HS1 := Lib.hid (show ∀ W, Loc w ((tB, 33, #[.slice (some ⟨g1, 0, none⟩) n c1, .slice (some ⟨g2, 0, none⟩) m c2, .slice A3 (n * m) c3, v, .slice none 0 0, .int .i64 1, .string tt, .string ⟨#[49]⟩, .string ⟨#[]⟩, .bool false, .int .i64 0, .int .i64 0, .int .i64 0, .slice none 0 0]) :: L1) W → W.cell? ⟨w.heap.size + 1, 3, none⟩ = some (.int .i64 how) from fun W h => LS.ask HM.out h)
        have HS2 := Lib.hid (show ∀ W, Loc w ((tB, 33, #[.slice (some ⟨g1, 0, none⟩) n c1, .slice (some ⟨g2, 0, none⟩) m c2, .slice A3 (n * m) c3, v, .slice none 0 0, .int .i64 1, .string tt, .string ⟨#[49]⟩, .string ⟨#[]⟩, .bool false, .int .i64 0, .int .i64 0, .int .i64 0, .slice none 0 0]) :: L1) W → W.cell? ⟨tB, 3, none⟩ = some v from fun W h => (h.blk (g := tB) (t := 33) (List.mem_cons_self ..)).cell 3)
        obtain ⟨l, hl⟩ : ∃ l, l = (List.range i).map (rowV N how RL) := ⟨_, rfl⟩
        have hll : l.length = i := by rw [hl, List.length_map, List.length_range]
        have HSN := Lib.hid (show (List.range (i + 1)).map (rowV N how RL) = l ++ [rowV N how RL i] from by rw [hl, List.range_succ, List.map_append]; rfl)
        rw [← hl] at HL
        clear hl
        go_upto_region 27 with fail
        refine wp_region_G (S1 := fun W => W.cell? ⟨w.heap.size + 1, 3, none⟩ = some (.int .i64 how)) (S2 := fun W => W.cell? ⟨tB, 3, none⟩ = some v) (d := 9) (by kernel_rfl) (HS1.out _ HL.out.drew.loc) (HS2.out _ HL.out.drew.loc) (fun hT => ?_)
        refine wpAnyG_take1 (i := 0) (v := ?_) rfl (by kernel_rfl) (by kernel_rfl) (by kernel_rfl) (by kernel_rfl) (fun _ _ _ h => h) (Or.inl ⟨by rfl, ?_⟩) (by assumption) (fun hT => ?_)
        rotate_left
        · intro w hSw
          (try dsimp only at hSw)
          go_simp
          (try with_reducible rfl)
        (try simp only [Act.put, List.setIfInBounds_toArray, List.set_cons_zero, List.set_cons_succ])
        refine wpAnyG_take2 (i := 1) (v := ?_) rfl (by kernel_rfl) (by kernel_rfl) (by kernel_rfl) (by kernel_rfl) (by kernel_rfl) (by kernel_rfl) (fun _ _ _ h => h) (Or.inl ⟨by rfl, ?_⟩) (by assumption) (fun hT => ?_)
        rotate_left
        · intro w hSw
          (try dsimp only at hSw)
          go_simp
          (try with_reducible rfl)
        (try simp only [Act.put, List.setIfInBounds_toArray, List.set_cons_zero, List.set_cons_succ])
        refine wpAnyG_take1 (i := 2) (v := ?_) rfl (by kernel_rfl) (by kernel_rfl) (by kernel_rfl) (by kernel_rfl) (fun _ _ _ h => h) (Or.inl ⟨by rfl, ?_⟩) (by assumption) (fun hT => ?_)
        rotate_left
        · intro w hSw
          (try dsimp only at hSw)
          go_simp
          (try with_reducible rfl)
        (try simp only [Act.put, List.setIfInBounds_toArray, List.set_cons_zero, List.set_cons_succ])
        refine wpAnyG_take1 (i := 3) (v := ?_) rfl (by kernel_rfl) (by kernel_rfl) (by kernel_rfl) (by kernel_rfl) (fun _ _ _ h => h) (Or.inl ⟨by rfl, ?_⟩) (by assumption) (fun hT => ?_)
        rotate_left
        · intro w hSw
          (try dsimp only at hSw)
          go_simp
          (try with_reducible rfl)
        (try simp only [Act.put, List.setIfInBounds_toArray, List.set_cons_zero, List.set_cons_succ])
        refine wpAnyG_take1 (i := 4) (v := ?_) rfl (by kernel_rfl) (by kernel_rfl) (by kernel_rfl) (by kernel_rfl) (fun _ _ _ h => h) (Or.inl ⟨by rfl, ?_⟩) (by assumption) (fun hT => ?_)
        rotate_left
        · intro w hSw
          (try dsimp only at hSw)
          go_simp
          (try with_reducible rfl)
        (try simp only [Act.put, List.setIfInBounds_toArray, List.set_cons_zero, List.set_cons_succ])
        refine wpAnyG_ready (rs := [5]) (by kernel_rfl) (by simp) ?_
        refine AllG.cons (i := 5) rfl (fun K hK => ?_) AllG.nil
        go_simp
        go_at_call 19
        with_reducible refine (HRC.out _ HL.out.drew.loc HL.out.drew.chg).mono ?_
        rintro e w1 ⟨rfl, hb⟩
        have HL1 := Lib.hid (HL.out.drew.step hb)
        clear hb
        refine hK.out _ _ ⟨HS1.out _ HL1.out.loc, .inr (HS2.out _ HL1.out.loc)⟩ (fun hT => ?_)
        clear hK K
        (try simp only [Act.put, List.setIfInBounds_toArray, List.set_cons_zero, List.set_cons_succ])
        refine wpAnyG_ready (rs := [6]) (by kernel_rfl) (by simp) ?_
        refine AllG.cons (i := 6) rfl (fun K hK => ?_) AllG.nil
        go_simp
        refine hK.out _ _ ⟨HS1.out _ (HL1.out.alloc _).loc, .inr (HS2.out _ (HL1.out.alloc _).loc)⟩ (fun hT => ?_)
        clear hK K
        (try simp only [Act.put, List.setIfInBounds_toArray, List.set_cons_zero, List.set_cons_succ])
        refine wpAnyG_ready (rs := [7]) (by kernel_rfl) (by simp) ?_
        refine AllG.cons (i := 7) rfl (fun K hK => ?_) AllG.nil
        refine step_row2 25 27 9 112 csV _ Tryz.underlying25 val_info rfl (by decide) csV_one rfl (.tmp 139) (.tmp 144) rfl B v l rfl (HL1.out.alloc _).row (rowV N how RL i) w1.heap.size _ HCS.out (Blk.new w1 _ _) rfl (by omega) (by unfold maxLen; omega) (HL1.out.alloc _).base ?_
        intro gx cx w5 ho hb hg hx
        rw [hll] at ho
        have HL5 := Lib.hid (LS.grown HM.out (HL1.out.alloc _) hb ho)
        clear ho hb hg hx
        have r2c := HS2.out _ HL5.out.loc
        have r2f := (HL5.out.loc.blk (g := tB) (t := 33) (List.mem_cons_self ..)).frozen 3
        refine hK.out _ _ ⟨HS1.out _ HL5.out.loc, .inr (HS2.out _ HL5.out.loc)⟩ (fun hT => ?_)
        clear hK K
        (try simp only [Act.put, List.setIfInBounds_toArray, List.set_cons_zero, List.set_cons_succ])
        refine wpAnyG_take1 (i := 8) (v := ?_) rfl (by kernel_rfl) (by kernel_rfl) (by kernel_rfl) (by kernel_rfl) (fun _ _ _ h => h) (Or.inl ⟨by rfl, ?_⟩) (by assumption) (fun hT => ?_)
        rotate_left
        · intro w hSw
          (try dsimp only at hSw)
          go_simp
          (try with_reducible rfl)
        (try simp only [Act.put, List.setIfInBounds_toArray, List.set_cons_zero, List.set_cons_succ])
        refine wpAnyG_ready (rs := [9]) (by kernel_rfl) (by simp) ?_
        refine AllG.cons (i := 9) rfl (fun K hK => ?_) AllG.nil
        go_simp
        have HL6 := Lib.hid (show LS w wz _ L1 tB #[.slice (some ⟨g1, 0, none⟩) n c1, .slice (some ⟨g2, 0, none⟩) m c2, .slice A3 (n * m) c3, (.slice (some ⟨gx, 0, none⟩) (i + 1) cx), .slice none 0 0, .int .i64 1, .string tt, .string ⟨#[49]⟩, .string ⟨#[]⟩, .bool false, .int .i64 0, .int .i64 0, .int .i64 0, .slice none 0 0] B _ _ [(.slice A3 (n * m) c3, (List.range (n * m)).map (cellV N how RL m))] from LS.put HM.out HL5.out 3 (.slice (some ⟨gx, 0, none⟩) (i + 1) cx))
        refine hK.out _ _ ⟨LS.ask HM.out HL6.out.loc, .inl rfl⟩ (fun hT => ?_)
        clear hK K
        (try simp only [Act.put, List.setIfInBounds_toArray, List.set_cons_zero, List.set_cons_succ])
        refine wpAnyG_done (by kernel_rfl) ?_ _
        go_wp2_with fail
        go_roundw
        case rel => exact ⟨i + 1, _, by omega, by go_num, Lib.hid (by rw [HSN.out]; exact HL6.out)⟩
        case measure => simp [intOf]; omega
      · have hlz : ¬ (i : Int) < (n : Int) := by omega
        obtain rfl : n = i := by omega
        obtain ⟨A4, c4, hv⟩ := (RowOf.reads HL.out.row csV_len).shape
        rw [List.length_map, List.length_range] at hv
        subst hv
        have HL9 := Lib.hid HL.out.next
        go_wp2_with fail
        go_meet
        exact ⟨A4, c4, HL9⟩
  case rest =>
    clear HL
    obtain ⟨A4, c4, HL⟩ := hcut
    go_step
    exact make29 HM HTT HL
end Go.Proofs.YtmapagbmihpbmaaGreatDoor

namespace Go.Proofs.YtmapagbmihpbmaaGreatDoor
open Go.RowKit

abbrev vA (u : Vl) : Array Value := #[.int .i64 u.k, .string u.num, .string u.den, .string u.text, .bool u.on, .int .i64 u.code, .int .i64 u.rows, .int .i64 u.cols, .slice u.A u.n u.c]
noncomputable def mrest16 : Code := ((Tryz.f6.body.bind (contAt 16)).getD .skip)
set_option maxRecDepth 100000 in
set_option maxHeartbeats 40000000 in
theorem make16 {u0 u1 u2 u5 u6 u7 u8 u9 u14 u15 u16 u17 u18 u19 u20 u21 u22 u23 u24 u25 u26 u27 u28 u29 u30 u31 u32 u33 u34 u35 u36 u37 u38 u39 u40 u41 u42 u43 u44 u45 u46 u47 u48 u49 u50 u51 u52 u53 u54 u55 u56 u57 u58 u59 u60 u61 u62 u63 u64 u65 u66 u67 u68 u69 u70 u71 u72 u73 u74 u75 u76 u77 u78 u79 u80 u81 u82 u83 u84 u85 u86 u87 u88 u89 u90 u91 u92 u93 u94 u95 u96 u97 u98 u99 u100 u101 u102 u103 u104 u105 u106 u107 u108 u109 u110 u111 u112 u113 u114 u115 u116 u117 u118 u119 u120 u121 u122 u123 u124 u125 u126 u127 u128 u129 u130 u131 u132 u133 u134 u135 u136 u137 u138 u139 u140 u141 u142 u143 u144 u145 u146 u147 u148 u149 u150 u151 u152 u153 u154 u155 u156 u157 u158 u159 u160 u161 u162 u163 u164 : Value} {w wz wr : World} {L1 : List (Nat × TypeId × Array Value)} {tB h1 h2 h3 n m : Nat} {RL : List Rm} {g1 c1 g2 c2 : Nat} {tt : ByteArray} {K1 K2 : List Vl} {N : Rm → Nat} {how : Int} {NM : Nat} (HM : Hid (Mk w wz L1 tB h1 h2 h3 n m RL (.slice (some ⟨g1, 0, none⟩) n c1) (.slice (some ⟨g2, 0, none⟩) m c2) K1 K2 N how)) (HTT : Hid (tt = nt (resN N how RL))) (HNM : Hid (NM = n * m)) (HL : Hid (LS w wz wr L1 tB #[.slice (some ⟨g1, 0, none⟩) n c1, .slice (some ⟨g2, 0, none⟩) m c2, .slice none 0 0, .slice none 0 0, .slice none 0 0, .int .i64 1, .string tt, .string ⟨#[49]⟩, .string ⟨#[]⟩, .bool false, .int .i64 0, .int .i64 0, .int .i64 0, .slice none 0 0] wr.heap.size (.slice none 0 0) [] [])) :
    Code.wp Tryz.prog mrest16 (bodyPost Tryz.prog Tryz.f6 (MakeR n m K1 K2 RL N how w)) ⟨#[u0, u1, u2, .pointer (some ⟨w.heap.size + 1, 0, none⟩), .pointer (some ⟨w.heap.size + 1 + 1, 0, none⟩), u5, u6, u7, u8, u9, .pointer (some ⟨tB, 0, none⟩), .slice (some ⟨h1, 0, none⟩) NM NM, .slice (some ⟨h2, 0, none⟩) n n, .slice (some ⟨h3, 0, none⟩) m m, u14, u15, u16, u17, u18, u19, u20, u21, u22, u23, u24, u25, u26, u27, u28, u29, u30, u31, u32, u33, u34, u35, u36, u37, u38, u39, u40, u41, u42, u43, u44, u45, u46, u47, u48, u49, u50, u51, u52, u53, u54, u55, u56, u57, u58, u59, u60, u61, u62, u63, u64, u65, u66, u67, u68, u69, u70, u71, u72, u73, u74, u75, u76, u77, u78, u79, u80, u81, u82, u83, u84, u85, u86, u87, u88, u89, u90, u91, u92, u93, u94, u95, u96, u97, u98, u99, u100, u101, u102, u103, u104, u105, u106, u107, u108, u109, u110, u111, u112, u113, u114, u115, u116, u117, u118, u119, u120, u121, u122, u123, u124, u125, u126, u127, u128, u129, u130, u131, u132, u133, u134, u135, u136, u137, u138, u139, u140, u141, u142, u143, u144, u145, u146, u147, u148, u149, u150, u151, u152, u153, u154, u155, u156, u157, u158, u159, u160, u161, u162, u163, u164], []⟩ wr := by
  conv => arg 2; whnf
  conv => arg 4; zeta
  have hnm : NM ≤ 196 := by rw [HNM.out]; exact Nat.le_trans (Nat.mul_le_mul HM.out.ln HM.out.lm) (by decide)
  go_upto_block 2 with fail
  go_cut [] (fun wx => ∃ (A3 : Option Addr) (c3 : Nat), Hid (LS w wz wx L1 tB #[.slice (some ⟨g1, 0, none⟩) n c1, .slice (some ⟨g2, 0, none⟩) m c2, .slice A3 NM c3, .slice none 0 0, .slice none 0 0, .int .i64 1, .string tt, .string ⟨#[49]⟩, .string ⟨#[]⟩, .bool false, .int .i64 0, .int .i64 0, .int .i64 0, .slice none 0 0] wx.heap.size (.slice none 0 0) [] [(.slice A3 NM c3, (List.range NM).map (cellV N how RL m))]))
  case first =>
    go_wp2_with fail
    obtain ⟨B, hB⟩ : ∃ B, B = wr.heap.size := ⟨_, rfl⟩
    rw [← hB] at HL
    clear hB
    go_loopw [114] (fun u114 wx => ∃ (i : Nat) (v : Value), i ≤ NM ∧ u114 = .int .i64 i ∧ Hid (LS w wz wx L1 tB #[.slice (some ⟨g1, 0, none⟩) n c1, .slice (some ⟨g2, 0, none⟩) m c2, v, .slice none 0 0, .slice none 0 0, .int .i64 1, .string tt, .string ⟨#[49]⟩, .string ⟨#[]⟩, .bool false, .int .i64 0, .int .i64 0, .int .i64 0, .slice none 0 0] B v ((List.range i).map (cellV N how RL m)) [])) (fun u _ => NM - (intOf u).toNat)
    case atStart => exact ⟨0, .slice none 0 0, by omega, rfl, HL⟩
    case round =>
      clear HL
      obtain ⟨i, v, hi, rfl, HL⟩ := hrel
      by_cases hlt : i < NM
      · have hlz : (i : Int) < (NM : Int) := by omega
        obtain ⟨A, c, hcl⟩ := HM.out.hd1 i (HNM.out ▸ hlt)
        obtain ⟨t, ht⟩ : ∃ t, t = nt (resN N how (grM RL (i / m) (i % m))) := ⟨_, rfl⟩
        have HRC := Lib.hid (show ∀ W, Loc w ((tB, 33, #[.slice (some ⟨g1, 0, none⟩) n c1, .slice (some ⟨g2, 0, none⟩) m c2, v, .slice none 0 0, .slice none 0 0, .int .i64 1, .string tt, .string ⟨#[49]⟩, .string ⟨#[]⟩, .bool false, .int .i64 0, .int .i64 0, .int .i64 0, .slice none 0 0]) :: L1) W → Chg wz.heap.size [tB] wz W → Calls Tryz.prog 19 #[.slice A (grM RL (i / m) (i % m)).length c, .int .i64 how] W fun e w' => e = .returned (.agg #[.int .i64 1, .string t, .string ⟨#[49]⟩, .string ⟨#[]⟩, .bool false, .int .i64 0, .int .i64 0, .int .i64 0, .slice none 0 0]) ∧ Below W.heap.size W w' from fun W h1 h2 => by
          rw [ht]
          exact HM.out.res A _ c _ W (HM.out.env.below h1.bel) (hcl W h2).2 (Nat.le_trans (grM_len _ _ _) HM.out.len) (grM_mem _ _ _))
        have e0 : wr.cell? ⟨h1, i, none⟩ = some (.slice A (grM RL (i / m) (i % m)).length c) := (hcl wr HL.out.chg).1
        have hq14 := Nat.le_trans (grM_len RL (i / m) (i % m)) HM.out.len
        obtain ⟨q, hq⟩ : ∃ q, q = (grM RL (i / m) (i % m)).length := ⟨_, rfl⟩
        rw [← hq] at HRC e0 hq14
        have HC0 := Lib.hid (show q = 0 → zV = cellV N how RL m i from fun h => by unfold cellV; rw [if_pos (by rw [← hq]; exact h)])
        have HC1 := Lib.hid (show ¬ q = 0 → (⟨1, t, ⟨#[49]⟩, ⟨#[]⟩, false, 0, 0, 0, none, 0, 0⟩ : Vl) = cellV N how RL m i from fun h => by unfold cellV; rw [if_neg (by rw [← hq]; exact h), ht]; rfl)
        clear hcl hq ht
        obtain ⟨u, hu⟩ : ∃ u, u = cellV N how RL m i := ⟨_, rfl⟩
        rw [← hu] at HC0 HC1
        have HUU := Lib.hid hu
        clear hu
        obtain ⟨l, hl⟩ : ∃ l, l = (List.range i).map (cellV N how RL m) := ⟨_, rfl⟩
        have hll : l.length = i := by rw [hl, List.length_map, List.length_range]
        have HSN := Lib.hid (show (List.range (i + 1)).map (cellV N how RL m) = l ++ [u] from by rw [hl, List.range_succ, List.map_append, HUU.out]; rfl)
        rw [← hl] at HL
        clear hl HUU
        go_upto_if 120 with fail
        have hbk := Blk.new wr 27 #[(.int .i64 0), (.string ⟨#[]⟩), (.string ⟨#[]⟩), (.string ⟨#[]⟩), (.bool false), (.int .i64 0), (.int .i64 0), (.int .i64 0), (.slice none 0 0)]
        have HLA := Lib.hid (HL.out.alloc (.cells #[(.int .i64 0), (.string ⟨#[]⟩), (.string ⟨#[]⟩), (.string ⟨#[]⟩), (.bool false), (.int .i64 0), (.int .i64 0), (.int .i64 0), (.slice none 0 0)] 27))
        have HWA := Lib.hid (show Below wr.heap.size wr (wr.alloc (.cells #[(.int .i64 0), (.string ⟨#[]⟩), (.string ⟨#[]⟩), (.string ⟨#[]⟩), (.bool false), (.int .i64 0), (.int .i64 0), (.int .i64 0), (.slice none 0 0)] 27)) from (Below.refl _ _).alloc (Nat.le_refl _) _)
        clear e0
        revert hbk HLA HWA
        generalize wr.alloc (.cells #[(.int .i64 0), (.string ⟨#[]⟩), (.string ⟨#[]⟩), (.string ⟨#[]⟩), (.bool false), (.int .i64 0), (.int .i64 0), (.int .i64 0), (.slice none 0 0)] 27) = W1
        intro hbk HLA HWA
        obtain ⟨z, hz⟩ : ∃ z, z = wr.heap.size := ⟨_, rfl⟩
        rw [← hz] at hbk ⊢
        have HZ := Lib.hid (Nat.le_of_eq hz.symm)
        clear hz
        have HBK := Lib.hid hbk
        clear hbk
        go_cut [] (fun wx => Hid (LS w wz wx L1 tB #[.slice (some ⟨g1, 0, none⟩) n c1, .slice (some ⟨g2, 0, none⟩) m c2, v, .slice none 0 0, .slice none 0 0, .int .i64 1, .string tt, .string ⟨#[49]⟩, .string ⟨#[]⟩, .bool false, .int .i64 0, .int .i64 0, .int .i64 0, .slice none 0 0] B v l []) ∧ Hid (Blk wx z 27 (vA u)) ∧ Hid (z < wx.heap.size))
        case first =>
          by_cases hq0 : q = 0
          · have hqz : ¬ (q : Int) > 0 := by omega
            have hu := HC0.out hq0
            clear hq0
            go_wp2_with fail
            go_meet
            exact ⟨HLA, Lib.hid (by rw [← hu]; exact HBK.out), Lib.hid HBK.out.lt⟩
          · have hqz : (q : Int) > 0 := by omega
            have hu := Lib.hid (HC1.out hq0)
            clear hq0
            have p3 : W1.cell? ⟨w.heap.size + 1, 3, none⟩ = some (.int .i64 how) := LS.ask HM.out HLA.out.loc
            go_wp2_with (go_at_call 19; (with_reducible refine (HRC.out _ HLA.out.loc HLA.out.chg).mono ?_); rintro e w2 ⟨rfl, hb⟩; have HL2 := Lib.hid (HLA.out.step hb); have HB2 := Lib.hid (HBK.out.later hb); have HW2 := Lib.hid (HWA.out.trans (hb.mono HWA.out.size)); obtain ⟨f0, f1, f2, f3, f4, f5, f6, f7, f8⟩ := HB2.out.ninef; obtain ⟨z0, z1, z2, z3, z4, z5, z6, z7, z8⟩ := HB2.out.nine; clear hb p3)
            go_meet
            have hs := (HB2.out.nine_set (.int .i64 1) (.string t) (.string ⟨#[49]⟩) (.string ⟨#[]⟩) (.bool false) (.int .i64 0) (.int .i64 0) (.int .i64 0) (.slice none 0 0)).1
            exact ⟨Lib.hid (HL.out.step (below_nine HW2.out HZ.out _ _ _ _ _ _ _ _ _)), Lib.hid (by rw [← hu.out]; exact hs), Lib.hid hs.lt⟩
        case rest =>
          clear HLA HBK HRC HC0 HC1 HWA HL HZ hq14
          obtain ⟨HLx, HBx, HZx⟩ := hcut
          rename World => wx
          obtain ⟨uk, unum, uden, utext, uon, ucode, urows, ucols, uA, un, uc⟩ := u
          have c0 : wx.cell? ⟨z, 0, none⟩ = some (.int .i64 uk) := HBx.out.cell 0
          have c1 : wx.cell? ⟨z, 1, none⟩ = some (.string unum) := HBx.out.cell 1
          have c2 : wx.cell? ⟨z, 2, none⟩ = some (.string uden) := HBx.out.cell 2
          have c3 : wx.cell? ⟨z, 3, none⟩ = some (.string utext) := HBx.out.cell 3
          have c4 : wx.cell? ⟨z, 4, none⟩ = some (.bool uon) := HBx.out.cell 4
          have c5 : wx.cell? ⟨z, 5, none⟩ = some (.int .i64 ucode) := HBx.out.cell 5
          have c6 : wx.cell? ⟨z, 6, none⟩ = some (.int .i64 urows) := HBx.out.cell 6
          have c7 : wx.cell? ⟨z, 7, none⟩ = some (.int .i64 ucols) := HBx.out.cell 7
          have c8 : wx.cell? ⟨z, 8, none⟩ = some (.slice uA un uc) := HBx.out.cell 8
          have k2 : wx.cell? ⟨tB, 2, none⟩ = some v := (HLx.out.loc.blk (g := tB) (t := 33) (List.mem_cons_self ..)).cell 2
          go_wp2_with (at_builtin; go_loud (refine wp_row1 25 27 9 112 csV _ Tryz.underlying25 val_info rfl (by decide) csV_one rfl _ _ rfl B v l rfl HLx.out.row ⟨uk, unum, uden, utext, uon, ucode, urows, ucols, uA, un, uc⟩ _ ?_ rfl (by omega) (by unfold maxLen; omega) HLx.out.base ?_); (rfl); intro v3 w3 ho hb hg; obtain ⟨gx, cx, hv, -, -⟩ := RowOf.form ho (by simp); rw [List.length_append, hll] at hv; subst hv; have HL5 := Lib.hid (LS.grown HM.out HLx.out hb ho); have r2c : w3.cell? ⟨tB, 2, none⟩ = some v := (HL5.out.loc.blk (g := tB) (t := 33) (List.mem_cons_self ..)).cell 2; have r2f := (HL5.out.loc.blk (g := tB) (t := 33) (List.mem_cons_self ..)).frozen 2; clear ho hb hg)
          go_roundw
          case rel => exact ⟨i + 1, _, by omega, by go_num, Lib.hid (by rw [HSN.out]; exact LS.put HM.out HL5.out 2 _)⟩
          case measure => simp [intOf]; omega
      · have hlz : ¬ (i : Int) < (NM : Int) := by omega
        obtain rfl : NM = i := by omega
        obtain ⟨A3, c3, hv⟩ := (RowOf.reads HL.out.row csV_len).shape
        rw [List.length_map, List.length_range] at hv
        subst hv
        have HL9 := Lib.hid HL.out.next
        go_wp2_with fail
        go_meet
        exact ⟨A3, c3, HL9⟩
  case rest =>
    clear HL hnm
    obtain ⟨A3, c3, HL⟩ := hcut
    obtain rfl := HNM.out
    go_step
    exact make24 HM HTT HL
end Go.Proofs.YtmapagbmihpbmaaGreatDoor
