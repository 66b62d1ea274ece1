/- chart.cell: the value of a cell of a calculated sheet. -/
import Derived.Test.YtigeipjkcidleaaGreatDoorTdA
import Derived.Test.YtigeipjkcidleaaGreatDoorVaD
import Derived.Test.YtigeipjkcidleaaGreatDoorExH
import Derived.Test.YtigeipjkcidleaaGreatDoorExF
import Derived.Test.YtigeipjkcidleaaGreatDoorVaG
namespace Go.Proofs.YtigeipjkcidleaaGreatDoor
open Go.RowKit

structure CC where
  row : Int
  col : Int
  v : Vl
def ccC (c : CC) : List Value := .int .i64 c.row :: .int .i64 c.col :: c.v.cs.toList
def zVl : Vl := ⟨0, ⟨#[]⟩, ⟨#[]⟩, ⟨#[]⟩, false, 0, 0, 0, none, 0, 0⟩
/-- The value at a place. -/
def lk (l : List CC) (r c : Int) : Vl :=
  match l with
  | [] => zVl
  | x :: t => if x.row = r ∧ x.col = c then x.v else lk t r c
abbrev CCs (w : World) (v : Value) (l : List CC) : Prop := Reads 11 ccC w v l
def shV (node : Int) (name : ByteArray) (rows cols : Int) (A : Option Addr) (n c : Nat) : Value := .agg #[.int .i64 node, .string name, .int .i64 rows, .int .i64 cols, .slice A n c]
set_option maxRecDepth 100000 in
set_option maxHeartbeats 8000000 in
theorem cell_any (node : Int) (name : ByteArray) (rows cols : Int) (A : Option Addr) (n c : Nat) (l : List CC) (r k : Int) (w : World) (h : CCs w (.slice A n c) l) (hn : n ≤ 1000000) :
    Calls Tryz.prog 39 #[.agg #[.int .i64 node, .string name, .int .i64 rows, .int .i64 cols, .slice A n c], .int .i64 r, .int .i64 k] w fun e w' => e = .returned (lk l r k).v ∧ Below w.heap.size w w' := by
  obtain ⟨A', c', e', hc', -, hrd⟩ := h
  injection e' with e1 e2 e3
  subst e1 e2 e3
  have HRD := Lib.hid hrd
  have HL0 := Lib.hid (((Loc.start w).alloc' rfl 48 #[.int .i64 node, .string name, .int .i64 rows, .int .i64 cols, .slice A l.length c]).alloc' (g := w.heap.size + 1) (by simp) 27 zVl.cs)
  clear hrd
  go_enter Tryz.func39, Tryz.ntmps39
  go_wp2_with fail
  go_loopw [12] (fun u wr => ∃ j : Nat, j ≤ l.length ∧ u = .int .i64 j ∧ Hid (lk l r k = lk (l.drop j) r k) ∧ Hid (Loc w [(w.heap.size + 1, 27, zVl.cs), (w.heap.size, 48, #[.int .i64 node, .string name, .int .i64 rows, .int .i64 cols, .slice A l.length c])] wr)) (fun u _ => l.length - (intOf u).toNat)
  case atStart => exact ⟨0, Nat.zero_le _, rfl, Lib.hid rfl, HL0⟩
  case round =>
    clear HL0
    obtain ⟨j, hj, rfl, HLK, HL⟩ := hrel
    by_cases hlt : j < l.length
    · obtain ⟨x, htk⟩ : ∃ x, x = l[j] := ⟨_, rfl⟩
      have hd : l.drop j = x :: l.drop (j + 1) := by rw [htk]; exact List.drop_eq_getElem_cons hlt
      obtain ⟨b, p, rfl, hblt, hcell⟩ := HRD.out (by omega)
      have hcell := fun i h j hj => (HL.out.bel.cell (p := ⟨b, p + (i * 11 + j), none⟩) hblt).trans (hcell i h j hj)
      obtain ⟨cr, ck, uk, unum, uden, utext, uon, ucode, urows, ucols, uA, un, uc⟩ := x
      have g0 : wr.cell? ⟨b, p + j * 11, none⟩ = some (.int .i64 cr) := by have := hcell j hlt 0 (by decide); rw [← htk] at this; exact this
      have g1 : wr.cell? ⟨b, p + j * 11 + 1, none⟩ = some (.int .i64 ck) := by have := hcell j hlt 1 (by decide); rw [← htk] at this; exact this
      have g2 : wr.cell? ⟨b, p + j * 11 + 2, none⟩ = some (.int .i64 uk) := by have := hcell j hlt 2 (by decide); rw [← htk] at this; exact this
      have g3 : wr.cell? ⟨b, p + j * 11 + 3, none⟩ = some (.string unum) := by have := hcell j hlt 3 (by decide); rw [← htk] at this; exact this
      have g4 : wr.cell? ⟨b, p + j * 11 + 4, none⟩ = some (.string uden) := by have := hcell j hlt 4 (by decide); rw [← htk] at this; exact this
      have g5 : wr.cell? ⟨b, p + j * 11 + 5, none⟩ = some (.string utext) := by have := hcell j hlt 5 (by decide); rw [← htk] at this; exact this
      have g6 : wr.cell? ⟨b, p + j * 11 + 6, none⟩ = some (.bool uon) := by have := hcell j hlt 6 (by decide); rw [← htk] at this; exact this
      have g7 : wr.cell? ⟨b, p + j * 11 + 7, none⟩ = some (.int .i64 ucode) := by have := hcell j hlt 7 (by decide); rw [← htk] at this; exact this
      have g8 : wr.cell? ⟨b, p + j * 11 + 8, none⟩ = some (.int .i64 urows) := by have := hcell j hlt 8 (by decide); rw [← htk] at this; exact this
      have g9 : wr.cell? ⟨b, p + j * 11 + 9, none⟩ = some (.int .i64 ucols) := by have := hcell j hlt 9 (by decide); rw [← htk] at this; exact this
      have g10 : wr.cell? ⟨b, p + j * 11 + 10, none⟩ = some (.slice uA un uc) := by have := hcell j hlt 10 (by decide); rw [← htk] at this; exact this
      have HK2 := Lib.hid (show lk l r k = if cr = r ∧ ck = k then ⟨uk, unum, uden, utext, uon, ucode, urows, ucols, uA, un, uc⟩ else lk (l.drop (j + 1)) r k from by rw [HLK.out, hd]; rfl)
      clear hcell htk hd HLK
      by_cases hm : cr = r ∧ ck = k
      · obtain ⟨rfl, rfl⟩ := hm
        rw [if_pos ⟨rfl, rfl⟩] at HK2
        have HL2 := Lib.hid ((HL.out.alloc 45 #[.int .i64 cr, .int .i64 ck, .int .i64 uk, .string unum, .string uden, .string utext, .bool uon, .int .i64 ucode, .int .i64 urows, .int .i64 ucols, .slice uA un uc]).perm (L' := [(w.heap.size + 1, 27, zVl.cs)]) (by simp))
        have bz := HL2.out.blk (g := w.heap.size + 1) (t := 27) (cs := #[.int .i64 0, .string ⟨#[]⟩, .string ⟨#[]⟩, .string ⟨#[]⟩, .bool false, .int .i64 0, .int .i64 0, .int .i64 0, .slice none 0 0]) (by simp [zVl, Vl.cs])
        have bn := bz.ninef
        obtain ⟨f0, f1, f2, f3, f4, f5, f6, f7, f8⟩ := bn
        obtain ⟨x0, x1, x2, x3, x4, x5, x6, x7, x8⟩ := bz.nine
        obtain ⟨bs, s0, s1, s2, s3, s4, s5, s6, s7, s8⟩ := bz.nine_set (.int .i64 uk) (.string unum) (.string uden) (.string utext) (.bool uon) (.int .i64 ucode) (.int .i64 urows) (.int .i64 ucols) (.slice uA un uc)
        have BS := Lib.hid bs
        clear bz bs
        go_wp2_with fail
        obtain ⟨q0, q1, q2, q3, q4, q5, q6, q7, q8⟩ := BS.out.nine
        refine bodyPost_ret (v := .agg #[.int .i64 uk, .string unum, .string uden, .string utext, .bool uon, .int .i64 ucode, .int .i64 urows, .int .i64 ucols, .slice uA un uc]) (by simp [results, Tryz.results39, go_sem, q0, q1, q2, q3, q4, q5, q6, q7, q8]) rfl ⟨?_, ?_⟩
        · rw [HK2.out]; rfl
        · exact below_nine HL2.out.bel (by omega) _ _ _ _ _ _ _ _ _
      · rw [if_neg hm] at HK2
        have HL2 := Lib.hid ((HL.out.alloc 45 #[.int .i64 cr, .int .i64 ck, .int .i64 uk, .string unum, .string uden, .string utext, .bool uon, .int .i64 ucode, .int .i64 urows, .int .i64 ucols, .slice uA un uc]).perm (L' := [(w.heap.size + 1, 27, zVl.cs), (w.heap.size, 48, #[.int .i64 node, .string name, .int .i64 rows, .int .i64 cols, .slice (some ⟨b, p, none⟩) l.length c])]) (fun x hx => List.mem_cons_of_mem _ hx))
        by_cases hr0 : cr = r
        · subst hr0
          have hkb : (ck == k) = false := by rw [beq_eq_false_iff_ne]; exact fun e => hm ⟨rfl, e⟩
          clear hm
          go_wp2_with fail
          go_roundw
          case rel => exact ⟨j + 1, by omega, by go_num, HK2, HL2⟩
          case measure => simp [intOf]; omega
        · have hrb : (cr == r) = false := by rw [beq_eq_false_iff_ne]; exact hr0
          clear hm hr0
          go_wp2_with fail
          go_roundw
          case rel => exact ⟨j + 1, by omega, by go_num, HK2, HL2⟩
          case measure => simp [intOf]; omega
    · have e0 : lk l r k = zVl := by rw [HLK.out, List.drop_of_length_le (by omega)]; rfl
      have HE := Lib.hid e0
      clear e0
      have bz := HL.out.blk (g := w.heap.size + 1) (t := 27) (cs := #[.int .i64 0, .string ⟨#[]⟩, .string ⟨#[]⟩, .string ⟨#[]⟩, .bool false, .int .i64 0, .int .i64 0, .int .i64 0, .slice none 0 0]) (by simp [zVl, Vl.cs])
      obtain ⟨f0, f1, f2, f3, f4, f5, f6, f7, f8⟩ := bz.ninef
      obtain ⟨x0, x1, x2, x3, x4, x5, x6, x7, x8⟩ := bz.nine
      obtain ⟨bs, s0, s1, s2, s3, s4, s5, s6, s7, s8⟩ := bz.nine_set (.int .i64 0) (.string ⟨#[]⟩) (.string ⟨#[]⟩) (.string ⟨#[]⟩) (.bool false) (.int .i64 0) (.int .i64 0) (.int .i64 0) (.slice none 0 0)
      have BS := Lib.hid bs
      clear bz bs
      go_wp2_with fail
      obtain ⟨q0, q1, q2, q3, q4, q5, q6, q7, q8⟩ := BS.out.nine
      refine bodyPost_ret (v := .agg #[.int .i64 0, .string ⟨#[]⟩, .string ⟨#[]⟩, .string ⟨#[]⟩, .bool false, .int .i64 0, .int .i64 0, .int .i64 0, .slice none 0 0]) (by simp [results, Tryz.results39, go_sem, q0, q1, q2, q3, q4, q5, q6, q7, q8]) rfl ⟨?_, ?_⟩
      · rw [HE.out]; rfl
      · exact below_nine HL.out.bel (by omega) _ _ _ _ _ _ _ _ _
end Go.Proofs.YtigeipjkcidleaaGreatDoor

namespace Go.Proofs.YtigeipjkcidleaaGreatDoor
open Go.RowKit

theorem itoa1 (n : Nat) (hn : n < 10) (w : World) (htab : Lib.TabIs Tryz.prog w "internal/strconv.uint64pow10" .u64 Lib.pow10Tab) :
    Calls Tryz.prog 15 #[.int .i64 (n : Int)] w fun e w' => e = .returned (.string ⟨#[UInt8.ofNat (48 + n)]⟩) ∧ Below w.heap.size w w' := by
  refine (Tryz.strconv_Itoa (n : Int) (by omega) (by omega) w htab).mono ?_
  rintro e w' ⟨rfl, k, os, rfl⟩
  refine ⟨?_, Lib.below_grow _ w (Nat.le_refl _) k os⟩
  congr 2
  apply ba_ext
  rw [Lib.itoa_nonneg, Lib.decDigits_one hn]
theorem cpdig (n : Nat) (hn : n = 1 ∨ n = 2) (w : World) : Calls Tryz.prog 137 #[.string ⟨#[UInt8.ofNat (48 + n)]⟩, .string ⟨#[45]⟩] w fun e w' => e = .returned (.tuple #[.string ⟨#[UInt8.ofNat (48 + n)]⟩, .bool false]) ∧ w = w' := by
  rcases hn with rfl | rfl
  · exact (Tryz.strings_CutPrefix ⟨#[49]⟩ ⟨#[45]⟩ w).mono fun _e _w' ⟨h1, h2⟩ => ⟨h1, h2.symm⟩
  · exact (Tryz.strings_CutPrefix ⟨#[50]⟩ ⟨#[45]⟩ w).mono fun _e _w' ⟨h1, h2⟩ => ⟨h1, h2.symm⟩
def HalfRet (w : World) (e : Ending) (w' : World) : Prop := ∃ sn sd : ByteArray, e = .returned (.tuple #[.agg #[.string sn, .string sd], .int .i64 0]) ∧ Nt.Qk sn.data.toList sd.data.toList 1 2 40 ∧ Below w.heap.size w w'
set_option maxRecDepth 100000 in
set_option maxHeartbeats 2000000 in
theorem half_any (w : World) (htab : Lib.TabIs Tryz.prog w "internal/strconv.uint64pow10" .u64 Lib.pow10Tab) :
    Calls Tryz.prog 83 #[.int .i64 1, .int .i64 2] w (HalfRet w) := by
  have HT := Lib.hid (show ∀ W, Below w.heap.size w W → Lib.TabIs Tryz.prog W "internal/strconv.uint64pow10" .u64 Lib.pow10Tab from Lib.tabBelow_of_tabIs htab)
  have HI1 := Lib.hid (show ∀ W, Below w.heap.size w W → Calls Tryz.prog 15 #[.int .i64 1] W fun e w' => e = .returned (.string ⟨#[49]⟩) ∧ Below W.heap.size W w' from fun W hW => itoa1 1 (by decide) W (HT.out W hW))
  have HI2 := Lib.hid (show ∀ W, Below w.heap.size w W → Calls Tryz.prog 15 #[.int .i64 2] W fun e w' => e = .returned (.string ⟨#[50]⟩) ∧ Below W.heap.size W w' from fun W hW => itoa1 2 (by decide) W (HT.out W hW))
  have HC1 := Lib.hid (show ∀ W, Calls Tryz.prog 137 #[.string ⟨#[49]⟩, .string ⟨#[45]⟩] W fun e w' => e = .returned (.tuple #[.string ⟨#[49]⟩, .bool false]) ∧ W = w' from fun W => cpdig 1 (.inl rfl) W)
  have HC2 := Lib.hid (show ∀ W, Calls Tryz.prog 137 #[.string ⟨#[50]⟩, .string ⟨#[45]⟩] W fun e w' => e = .returned (.tuple #[.string ⟨#[50]⟩, .bool false]) ∧ W = w' from fun W => cpdig 2 (.inr rfl) W)
  have HP1 := Lib.hid (show ∀ W, Calls Tryz.prog 138 #[.string ⟨#[49]⟩] W fun e w' => ∃ v, e = .returned v ∧ Nv w' v (Nt.digs 1) ∧ Below W.heap.size W w' from fun W => parse_any ⟨#[49]⟩ [49] W rfl (by unfold Nt.allD Nt.isD; decide) (by decide))
  have HP2 := Lib.hid (show ∀ W, Calls Tryz.prog 138 #[.string ⟨#[50]⟩] W fun e w' => ∃ v, e = .returned v ∧ Nv w' v (Nt.digs 2) ∧ Below W.heap.size W w' from fun W => parse_any ⟨#[50]⟩ [50] W rfl (by unfold Nt.allD Nt.isD; decide) (by decide))
  have HL0 := Lib.hid ((Loc.start w).alloc' rfl 24 #[.string ⟨#[]⟩, .string ⟨#[]⟩])
  clear htab
  go_enter Tryz.func83, Tryz.ntmps83
  go_wp2_with (first
    | (go_at_call 15; first | ((with_reducible refine (HI1.out _ HL0.out.bel).mono ?_); rintro e w1 ⟨rfl, hb⟩; have HL1 := Lib.hid (HL0.out.step hb); clear hb) | ((with_reducible refine (HI2.out _ HL1.out.bel).mono ?_); rintro e w2 ⟨rfl, hb⟩; have HL2 := Lib.hid (HL1.out.step hb); clear hb))
    | (go_at_call 137; first | ((with_reducible refine (HC1.out _).mono ?_); rintro e w3 ⟨rfl, rfl⟩) | ((with_reducible refine (HC2.out _).mono ?_); rintro e w4 ⟨rfl, rfl⟩))
    | (go_at_call 138; first | ((with_reducible refine (HP1.out _).mono ?_); rintro e w5 ⟨v1, rfl, hv, hb⟩; obtain ⟨A1, c1, rfl, -, -, -, -⟩ := hv.ex; have HV1 := Lib.hid hv; have HL3 := Lib.hid (HL2.out.step hb); clear hb hv) | ((with_reducible refine (HP2.out _).mono ?_); rintro e w6 ⟨v2, rfl, hv, hb⟩; obtain ⟨A2, c2, rfl, -, -, -, -⟩ := hv.ex; have HV2 := Lib.hid hv; have HV3 := Lib.hid (HV1.out.below hb); have HL4 := Lib.hid (HL3.out.step hb); clear hb hv))
    | (go_at_call 76; (with_reducible refine (write_any _ false 1 2 _ ⟨_, _, rfl, HV3.out, HV2.out⟩ (by decide) (by decide +kernel) (by decide +kernel) (by decide +kernel) (by decide +kernel) (HT.out _ HL4.out.bel)).mono ?_); rintro e w7 ⟨hb, sn, sd, rfl, e1, e2⟩; have hl := HL4.out.step hb; have HL5 := Lib.hid hl; have bl := hl.blk (g := w.heap.size) (t := 24) (cs := #[.string ⟨#[]⟩, .string ⟨#[]⟩]) (by simp); have HBL := Lib.hid bl; obtain ⟨z0, z1, f0, f1⟩ := bl.two; have E1 := Lib.hid e1; have E2 := Lib.hid e2; clear hl bl hb e1 e2))
  obtain ⟨-, q0, q1⟩ := HBL.out.two_set (.string sn) (.string sd)
  refine bodyPost_ret (v := .tuple #[.agg #[.string sn, .string sd], .int .i64 0]) (by simp [results, Tryz.results83, go_sem, q0, q1]) rfl ?_
  exact ⟨sn, sd, rfl, by rw [E1.out, E2.out]; exact Nt.w_qk (m := false) (n := 1) (p := 2) (by decide) (by decide) rfl (by decide) (by decide) (by decide), below_two HL5.out.bel (by omega) _ _⟩
theorem rd_whole (N : Nat) (h : N < 100000000000000000) : Nt.Rd (Lib.decDigits N) [49] false N 1 ∧ (Lib.decDigits N).length ≤ 17 := by
  have hl : (Lib.decDigits N).length ≤ 17 := Nt.dd_le (k := 16) h
  exact ⟨⟨rfl, by rw [Lib.decDigits_one (by decide)]; rfl, by decide, fun _ => rfl, by omega, by rw [Lib.decDigits_one (by decide)]; simp, Nat.gcd_one_right _⟩, hl⟩
theorem qk_whole (N : Nat) (h : N < 100000000000000000) : Nt.Qk (Lib.decDigits N) [49] N 1 40 :=
  Nt.Rd.qk (rd_whole N h).1 (by have := (rd_whole N h).2; omega) (by simp)
set_option maxRecDepth 100000 in
set_option maxHeartbeats 2000000 in
theorem int_q (a1 a2 : ByteArray) (N k : Nat) (w : World) (h : N < 100000000000000000) (ha : Nt.Qk a1.data.toList a2.data.toList N 1 k) :
    Calls Tryz.prog 85 #[.agg #[.string a1, .string a2]] w fun e w' => e = .returned (.tuple #[.int .i64 (N : Int), .bool true, .int .i64 0]) ∧ Below w.heap.size w w' := by
  obtain ⟨hr, hl⟩ := rd_whole N h
  obtain ⟨e1, e2⟩ := ha.q.same (qk_whole N h).q rfl
  obtain rfl : a2 = ⟨#[49]⟩ := ba_ext e2
  have hsz : a1.size ≤ 17 := by
    have : a1.size = a1.data.toList.length := rfl
    rw [this, e1]; exact hl
  have HCK := Lib.hid fun W => check_any a1 ⟨#[49]⟩ W (by omega) (by decide)
  have HRD := Lib.hid (show ∃ m n d, Nt.Rd a1.data.toList (⟨#[49]⟩ : ByteArray).data.toList m n d from ⟨false, N, 1, by rw [e1]; exact hr⟩)
  have HAT := Lib.hid fun W => atoi_any a1 (Lib.decDigits N) W e1 (by omega) (Nt.allD_dd N) (Nt.dd_ne N)
  rw [Nt.dval_dd] at HAT
  have HL0 := Lib.hid ((Loc.start w).alloc' rfl 24 #[.string a1, .string ⟨#[49]⟩])
  obtain ⟨x0, x1, -, -⟩ := (HL0.out.blk (List.mem_cons_self ..)).two
  have hN : (N : Int) ≤ 100000000000000000 := by omega
  clear ha hr hl e1 e2 h hsz
  go_enter Tryz.func85, Tryz.ntmps85
  go_wp2_with (first
    | (go_at_call 114; (with_reducible refine (HCK.out _).mono ?_); rintro e w1 ⟨c, rfl, hc, hb⟩; obtain rfl := hc.2 HRD.out; have HL1 := Lib.hid (HL0.out.step hb); clear hb hc x0 x1; obtain ⟨x0, x1, -, -⟩ := (HL1.out.blk (List.mem_cons_self ..)).two)
    | (go_at_call 139; (with_reducible refine (HAT.out _).mono ?_); rintro e w2 ⟨rfl, hb⟩; have HL2 := Lib.hid (HL1.out.step hb); clear hb x0 x1; obtain ⟨x0, x1, -, -⟩ := (HL2.out.blk (List.mem_cons_self ..)).two))
  go_ret3
  exact ⟨rfl, HL2.out.bel⟩
end Go.Proofs.YtigeipjkcidleaaGreatDoor

namespace Go.Proofs.YtigeipjkcidleaaGreatDoor
open Go.RowKit

set_option maxRecDepth 100000 in
set_option maxHeartbeats 2000000 in
theorem thou_no (v : Vl) (w : World) (h : v.k ≠ 1) : Calls Tryz.prog 40 #[v.v] w fun e w' => e = .returned (.tuple #[.int .i64 0, .bool true]) ∧ Below w.heap.size w w' := by
  obtain ⟨k, num, den, text, on, code, rows, cols, A, n, c⟩ := v
  dsimp only at h
  have hb : (k != 1) = true := by simpa using h
  show Calls Tryz.prog 40 #[.agg #[.int .i64 k, .string num, .string den, .string text, .bool on, .int .i64 code, .int .i64 rows, .int .i64 cols, .slice A n c]] w _
  go_enter Tryz.func40, Tryz.ntmps40
  go_wp2_with fail
  go_ret2
  exact ⟨rfl, (Below.refl _ _).alloc (Nat.le_refl _) _⟩
theorem of1000 (w : World) (htab : Lib.TabIs Tryz.prog w "internal/strconv.uint64pow10" .u64 Lib.pow10Tab) :
    Calls Tryz.prog 9 #[.int .i64 1000] w fun e w' => ∃ t : ByteArray, e = .returned (.agg #[.string t, .string ⟨#[49]⟩]) ∧ Nt.Qk t.data.toList (⟨#[49]⟩ : ByteArray).data.toList 1000 1 40 ∧ Below w.heap.size w w' := by
  refine (of_nat 1000 w (by decide) htab).mono ?_
  rintro e w' ⟨t, h1, h2, h3⟩
  exact ⟨t, h1, by rw [h2]; exact qk_whole 1000 (by decide), h3⟩
theorem floor_uniq {f N Z D : Int} (hD : 0 < D) (a1 : f * D ≤ Z) (a2 : Z < (f + 1) * D) (b1 : N * D ≤ Z) (b2 : Z < (N + 1) * D) : f = N := by
  have h1 : f < N + 1 := Int.lt_of_mul_lt_mul_right (Int.lt_of_le_of_lt a1 b2) (by omega)
  have h2 : N < f + 1 := Int.lt_of_mul_lt_mul_right (Int.lt_of_le_of_lt b1 a2) (by omega)
  omega
set_option maxRecDepth 100000 in
set_option maxHeartbeats 4000000 in
theorem thou_any (num den text : ByteArray) (on : Bool) (code rows cols : Int) (A : Option Addr) (n c : Nat) (z : Int) (d N : Nat) (w : World) (hq : Nt.Qk num.data.toList den.data.toList z d 40) (hN : N < 100000000000000000) (h1 : (N : Int) * (d * 2) ≤ z * 1000 * 2 + d) (h2 : z * 1000 * 2 + d < (N + 1) * (d * 2)) (htab : Lib.TabIs Tryz.prog w "internal/strconv.uint64pow10" .u64 Lib.pow10Tab) :
    Calls Tryz.prog 40 #[.agg #[.int .i64 1, .string num, .string den, .string text, .bool on, .int .i64 code, .int .i64 rows, .int .i64 cols, .slice A n c]] w fun e w' => e = .returned (.tuple #[.int .i64 N, .bool true]) ∧ Below w.heap.size w w' := by
  have HT := Lib.hid (show ∀ W, Below w.heap.size w W → Lib.TabIs Tryz.prog W "internal/strconv.uint64pow10" .u64 Lib.pow10Tab from Lib.tabBelow_of_tabIs htab)
  have HOF := Lib.hid fun W (hW : Below w.heap.size w W) => of1000 W (HT.out W hW)
  have HMU := Lib.hid fun W (hW : Below w.heap.size w W) t (ht : Nt.Qk t.data.toList (⟨#[49]⟩ : ByteArray).data.toList 1000 1 40) => mul_q num den t ⟨#[49]⟩ z 1000 d 1 40 40 W hq ht (by decide) (HT.out W hW)
  have HL0 := Lib.hid ((Loc.start w).alloc' rfl 27 #[.int .i64 1, .string num, .string den, .string text, .bool on, .int .i64 code, .int .i64 rows, .int .i64 cols, .slice A n c])
  have HL0a := Lib.hid (HL0.out.alloc' (g := w.heap.size + 1) (by simp) 24 #[.string ⟨#[]⟩, .string ⟨#[]⟩])
  obtain ⟨x0, x1, x2, -, -, -, -, -, -⟩ := (HL0.out.blk (List.mem_cons_self ..)).nine
  have HQD := Lib.hid hq.q.d0
  clear htab hq
  go_enter Tryz.func40, Tryz.ntmps40
  go_upto_region 3 with fail
  go_cut [4, 5] (fun u4 u5 wx => ∃ g sn sd, u4 = .pointer (some ⟨g, 0, none⟩) ∧ u5 = .int .i64 0 ∧ Hid (Nt.Qk (sn : ByteArray).data.toList (sd : ByteArray).data.toList (z * 1000) (d * 1) 80) ∧ Hid (Loc w [(g, 24, #[.string sn, .string sd]), (w.heap.size, 27, #[.int .i64 1, .string num, .string den, .string text, .bool on, .int .i64 code, .int .i64 rows, .int .i64 cols, .slice A n c])] wx) ∧ Hid (w.heap.size < g))
  case first =>
    go_region_held3 (fun W => W.cell? ⟨w.heap.size, 1, none⟩ = some (.string num) ∧ W.cell? ⟨w.heap.size, 2, none⟩ = some (.string den)) (first | exact ⟨by assumption, by assumption⟩ | exact ⟨(HL0a.out.blk (g := w.heap.size) (t := 27) (cs := #[.int .i64 1, .string num, .string den, .string text, .bool on, .int .i64 code, .int .i64 rows, .int .i64 cols, .slice A n c]) (by simp)).cell 1, (HL0a.out.blk (g := w.heap.size) (t := 27) (cs := #[.int .i64 1, .string num, .string den, .string text, .bool on, .int .i64 code, .int .i64 rows, .int .i64 cols, .slice A n c]) (by simp)).cell 2⟩ | exact ⟨(HL1a.out.blk (g := w.heap.size) (t := 27) (cs := #[.int .i64 1, .string num, .string den, .string text, .bool on, .int .i64 code, .int .i64 rows, .int .i64 cols, .slice A n c]) (by simp)).cell 1, (HL1a.out.blk (g := w.heap.size) (t := 27) (cs := #[.int .i64 1, .string num, .string den, .string text, .bool on, .int .i64 code, .int .i64 rows, .int .i64 cols, .slice A n c]) (by simp)).cell 2⟩ | exact ⟨(HL2a.out.blk (g := w.heap.size) (t := 27) (cs := #[.int .i64 1, .string num, .string den, .string text, .bool on, .int .i64 code, .int .i64 rows, .int .i64 cols, .slice A n c]) (by simp)).cell 1, (HL2a.out.blk (g := w.heap.size) (t := 27) (cs := #[.int .i64 1, .string num, .string den, .string text, .bool on, .int .i64 code, .int .i64 rows, .int .i64 cols, .slice A n c]) (by simp)).cell 2⟩ | exact ⟨(HL2s.out.blk (g := w.heap.size) (t := 27) (cs := #[.int .i64 1, .string num, .string den, .string text, .bool on, .int .i64 code, .int .i64 rows, .int .i64 cols, .slice A n c]) (by simp)).cell 1, (HL2s.out.blk (g := w.heap.size) (t := 27) (cs := #[.int .i64 1, .string num, .string den, .string text, .bool on, .int .i64 code, .int .i64 rows, .int .i64 cols, .slice A n c]) (by simp)).cell 2⟩ | exact ⟨(HL2e.out.blk (g := w.heap.size) (t := 27) (cs := #[.int .i64 1, .string num, .string den, .string text, .bool on, .int .i64 code, .int .i64 rows, .int .i64 cols, .slice A n c]) (by simp)).cell 1, (HL2e.out.blk (g := w.heap.size) (t := 27) (cs := #[.int .i64 1, .string num, .string den, .string text, .bool on, .int .i64 code, .int .i64 rows, .int .i64 cols, .slice A n c]) (by simp)).cell 2⟩) (first
      | (go_at_call 9; (with_reducible refine (HOF.out _ (by first | exact HL0.out.drew.bel | exact HL0a.out.drew.bel)).mono ?_); rintro e w1 ⟨t, rfl, ht, hb⟩; have HT1 := Lib.hid ht; have HL1 := Lib.hid (show Loc w [(w.heap.size, 27, #[.int .i64 1, .string num, .string den, .string text, .bool on, .int .i64 code, .int .i64 rows, .int .i64 cols, .slice A n c])] w1 from by first | exact HL0.out.drew.step hb | exact (HL0a.out.drew.step hb).perm (fun x hx => List.mem_cons_of_mem _ hx)); (try have HL1z := Lib.hid (show Loc w [(w.heap.size + 1, 24, #[.string ⟨#[]⟩, .string ⟨#[]⟩]), (w.heap.size, 27, #[.int .i64 1, .string num, .string den, .string text, .bool on, .int .i64 code, .int .i64 rows, .int .i64 cols, .slice A n c])] w1 from by first | exact HL0a.out.drew.step hb | exact HL0a.out.step hb)); have HL1a := Lib.hid (HL1.out.alloc 24 #[.string ⟨#[]⟩, .string ⟨#[]⟩]); clear x0 x1 x2 ht hb; obtain ⟨x0, x1, x2, -, -, -, -, -, -⟩ := (HL1.out.blk (List.mem_cons_self ..)).nine)
      | (go_at_call 82; (with_reducible refine (HMU.out _ (by first | exact HL1.out.bel | exact HL1a.out.bel | exact HL1.out.drew.bel | exact HL1a.out.drew.bel) _ HT1.out).mono ?_); rintro e w2 ⟨sn, sd, rfl, hq, hb⟩; have HQ2 := Lib.hid hq; have HL2 := Lib.hid (show Loc w [(w.heap.size, 27, #[.int .i64 1, .string num, .string den, .string text, .bool on, .int .i64 code, .int .i64 rows, .int .i64 cols, .slice A n c])] w2 from by first | exact HL1.out.step hb | exact (HL1a.out.step hb).perm (fun x hx => List.mem_cons_of_mem _ hx)); (first | (have HL2z := Lib.hid (show Loc w [(w1.heap.size, 24, #[.string ⟨#[]⟩, .string ⟨#[]⟩]), (w.heap.size, 27, #[.int .i64 1, .string num, .string den, .string text, .bool on, .int .i64 code, .int .i64 rows, .int .i64 cols, .slice A n c])] w2 from by first | exact HL1a.out.step hb | exact HL1a.out.drew.step hb); have hlz : w.heap.size < w1.heap.size := HL1.out.lt (List.mem_cons_self ..); obtain ⟨z0, z1, f0, f1⟩ := (HL2z.out.blk (List.mem_cons_self ..)).two) | (have HL2z := Lib.hid (show Loc w [(w.heap.size + 1, 24, #[.string ⟨#[]⟩, .string ⟨#[]⟩]), (w.heap.size, 27, #[.int .i64 1, .string num, .string den, .string text, .bool on, .int .i64 code, .int .i64 rows, .int .i64 cols, .slice A n c])] w2 from by first | exact HL1z.out.step hb | exact HL1z.out.drew.step hb); obtain ⟨z0, z1, f0, f1⟩ := (HL2z.out.blk (List.mem_cons_self ..)).two) | skip); have HL2e := Lib.hid (HL2.out.alloc 24 #[.string ⟨#[]⟩, .string ⟨#[]⟩]); have HL2a := Lib.hid (HL2.out.alloc 24 #[.string sn, .string sd]); (try have HL2s := Lib.hid (HL2z.out.set2 (fun x hx => by rw [List.mem_singleton.1 hx]; dsimp only; omega) (.string sn) (.string sd))); have hl2 : w.heap.size < w2.heap.size := HL2.out.lt (List.mem_cons_self ..); clear x0 x1 x2 hq hb; obtain ⟨x0, x1, x2, -, -, -, -, -, -⟩ := (HL2.out.blk (List.mem_cons_self ..)).nine))
    all_goals
      go_wp2_with fail
      go_meet
      first
        | exact ⟨_, sn, sd, rfl, rfl, HQ2, HL2a, Lib.hid hl2⟩
        | exact ⟨_, sn, sd, rfl, rfl, HQ2, HL2s, Lib.hid hlz⟩
        | exact ⟨_, sn, sd, rfl, rfl, HQ2, HL2s, Lib.hid (by omega)⟩
  case rest =>
    obtain ⟨g, sn, sd, rfl, rfl, HQ, HL, HLT⟩ := hcut
    clear x0 x1 x2 HL0 HL0a
    obtain ⟨z0, z1, f0, f1⟩ := (HL.out.blk (List.mem_cons_self ..)).two
    have HHF := Lib.hid fun W (hW : Below w.heap.size w W) => half_any W (HT.out W hW)
    go_upto_region 9 with (go_at_call 83; (with_reducible refine (HHF.out _ HL.out.bel).mono ?_); rintro e w3 ⟨tn, td, rfl, hq, hb⟩; have HQ3 := Lib.hid hq; have hg3 := (HL.out.step hb).lt (List.mem_cons_self ..); have HL3 := Lib.hid ((HL.out.step hb).alloc 24 #[.string tn, .string td]); clear hq hb z0 z1 f0 f1)
    have HAD := Lib.hid fun W (hW : Below w.heap.size w W) => add_q sn sd tn td (z * 1000) 1 (d * 1) 2 80 40 W HQ.out HQ3.out (by decide) (HT.out W hW)
    have hgl := HLT.out
    have hd0 : d ≠ 0 := HQD.out
    have HFL := Lib.hid (show ∀ W, Below w.heap.size w W → ∀ un ud : ByteArray, Nt.Qk un.data.toList ud.data.toList (z * 1000 * (2 : Nat) + 1 * (d * 1 : Nat)) (d * 1 * 2) (80 + 40 + 1) → Calls Tryz.prog 84 #[.agg #[.string un, .string ud]] W fun e w' => ∃ sn sd : ByteArray, e = .returned (.tuple #[.agg #[.string sn, .string sd], .int .i64 0]) ∧ Nt.Qk sn.data.toList sd.data.toList N 1 121 ∧ Below W.heap.size W w' from fun W hW un ud hq => (floor_q un ud _ _ _ W hq (by decide) (HT.out W hW)).mono fun e w' ⟨f, ⟨sn, sd, a, b, c⟩, k1, k2⟩ => by
      obtain rfl : f = N := floor_uniq (D := ((d * 1 * 2 : Nat) : Int)) (Z := z * 1000 * (2 : Nat) + 1 * (d * 1 : Nat)) (by omega) k1 k2 (by push_cast; rw [Int.mul_one]; omega) (by push_cast; rw [Int.mul_one]; omega)
      exact ⟨sn, sd, a, b, c⟩)
    have HIN := Lib.hid fun W sn sd (hq : Nt.Qk (sn : ByteArray).data.toList (sd : ByteArray).data.toList N 1 121) => int_q sn sd N 121 W hN hq
    obtain ⟨z0, z1, f0, f1⟩ := (HL3.out.blk (g := g) (t := 24) (cs := #[.string sn, .string sd]) (by simp)).two
    obtain ⟨v0, v1, -, -⟩ := (HL3.out.blk (g := w3.heap.size) (t := 24) (cs := #[.string tn, .string td]) (by simp)).two
    clear h1 h2 hd0 hN
    go_wp2_with (first
      | (go_at_call 10; (with_reducible refine (HAD.out _ HL3.out.bel).mono ?_); rintro e w4 ⟨un, ud, rfl, hq, hb⟩; have HQ4 := Lib.hid hq; have hl4 := (HL3.out.step hb).perm (L' := [(g, 24, #[.string sn, .string sd]), (w.heap.size, 27, #[.int .i64 1, .string num, .string den, .string text, .bool on, .int .i64 code, .int .i64 rows, .int .i64 cols, .slice A n c])]) (fun x hx => List.mem_cons_of_mem _ hx); clear z0 z1 f0 f1 v0 v1 hq hb; obtain ⟨z0, z1, f0, f1⟩ := (hl4.blk (List.mem_cons_self ..)).two; have HL4 := Lib.hid (hl4.set2 (fun x hx => by rw [List.mem_singleton.1 hx]; dsimp only; omega) (.string un) (.string ud)); obtain ⟨-, s0, s1⟩ := (hl4.blk (List.mem_cons_self ..)).two_set (.string un) (.string ud); obtain ⟨y0, y1, -, -⟩ := (HL4.out.blk (List.mem_cons_self ..)).two; clear hl4)
      | (go_at_call 84; (with_reducible refine (HFL.out _ HL4.out.bel _ _ HQ4.out).mono ?_); rintro e w5 ⟨fn, fd, rfl, hq, hb⟩; have HQ5 := Lib.hid hq; have hl5 := HL4.out.step hb; clear z0 z1 f0 f1 s0 s1 y0 y1 hq hb; obtain ⟨z0, z1, f0, f1⟩ := (hl5.blk (List.mem_cons_self ..)).two; have HL5 := Lib.hid (hl5.set2 (fun x hx => by rw [List.mem_singleton.1 hx]; dsimp only; omega) (.string fn) (.string fd)); obtain ⟨-, s0, s1⟩ := (hl5.blk (List.mem_cons_self ..)).two_set (.string fn) (.string fd); obtain ⟨y0, y1, -, -⟩ := (HL5.out.blk (List.mem_cons_self ..)).two; clear hl5)
      | (go_at_call 85; (with_reducible refine (HIN.out _ _ _ HQ5.out).mono ?_); rintro e w6 ⟨rfl, hb⟩; have HL6 := Lib.hid (HL5.out.step hb); clear hb))
    go_ret2
    exact ⟨rfl, HL6.out.bel⟩
end Go.Proofs.YtigeipjkcidleaaGreatDoor
