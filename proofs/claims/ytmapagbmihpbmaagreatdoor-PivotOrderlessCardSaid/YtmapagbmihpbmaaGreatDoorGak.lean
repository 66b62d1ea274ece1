/- value.Same at values with equal fields and no items. -/
import Derived.Test.YtmapagbmihpbmaaGreatDoorGah
import Derived.Test.YtmapagbmihpbmaaGreatDoorGaa
import Derived.Test.YtmapagbmihpbmaaGreatDoorGal
import Derived.Test.YtmapagbmihpbmaaGreatDoorGaf
import Derived.Test.YtmapagbmihpbmaaGreatDoorGag
set_option linter.unusedSimpArgs false
set_option linter.unusedVariables false
namespace Go.Proofs.YtmapagbmihpbmaaGreatDoor
open Go.RowKit

theorem eqfunc_0 (A1 A2 : Option Addr) (c1 c2 : Nat) (w : World) :
    Calls Tryz.prog 32 #[.slice A1 0 c1, .slice A2 0 c2, .func (.func 14) #[] #[]] w fun e w' => e = .returned (.bool true) ∧ w = w' := by
  go_enter Tryz.func32, Tryz.ntmps32
  go_wp2
  go_loop [17] (fun i => i = .int .i64 0) (fun _ => 0)
  case atStart => rfl
  case round =>
    obtain rfl := hrel
    go_wp2
    go_ret
    exact ⟨rfl, rfl⟩
set_option maxRecDepth 100000 in
set_option maxHeartbeats 4000000 in
theorem same_t (k : Int) (num den text : ByteArray) (on : Bool) (code rows cols : Int) (A1 A2 : Option Addr) (c1 c2 : Nat) (w : World) :
    Calls Tryz.prog 14 #[(.agg #[.int .i64 k, .string num, .string den, .string text, .bool on, .int .i64 code, .int .i64 rows, .int .i64 cols, .slice A1 0 c1]), (.agg #[.int .i64 k, .string num, .string den, .string text, .bool on, .int .i64 code, .int .i64 rows, .int .i64 cols, .slice A2 0 c2])] w fun e w' => e = .returned (.bool true) ∧ Below w.heap.size w w' := by
  have HL0 := Lib.hid (((Loc.start w).alloc' rfl 27 #[.int .i64 k, .string num, .string den, .string text, .bool on, .int .i64 code, .int .i64 rows, .int .i64 cols, .slice A1 0 c1]).alloc' (g := w.heap.size + 1) (by simp) 27 #[.int .i64 k, .string num, .string den, .string text, .bool on, .int .i64 code, .int .i64 rows, .int .i64 cols, .slice A2 0 c2])
  have HQ := fr_eql_self num den
  go_enter Tryz.func14, Tryz.ntmps14
  go_upto_region 1 with fail
  go_region_with fail
  all_goals
    go_wp2_with (go_at_call 32; (with_reducible refine (eqfunc_0 _ _ _ _ _).mono ?_); rintro e w2 ⟨rfl, rfl⟩)
    go_ret
    refine ⟨rfl, ?_⟩
    exact (((((Below.refl _ _).alloc (Nat.le_refl _) _).alloc (by simp) _).alloc (by simp; omega) _).alloc (by simp; omega) _).drew
end Go.Proofs.YtmapagbmihpbmaaGreatDoor

namespace Go.Proofs.YtmapagbmihpbmaaGreatDoor
open Go.RowKit

def csV (u : Vl) : List Value := u.cs.toList
/-- A key of one item is read. -/
def KR (W : World) (x : SV) (u : Vl) : Prop := Reads 9 csV W (sv3 x) [u]
theorem KR.below {w W : World} {x : SV} {u : Vl} (h : KR w x u) (hb : Below w.heap.size w W) : KR W x u := Reads.below h hb
/-- Its cells. -/
theorem KR.nine {W : World} {x : SV} {u : Vl} (h : KR W x u) : ∃ b o c, x = (some ⟨b, o, none⟩, 1, c) ∧ b < W.heap.size ∧
    W.cell? ⟨b, o, none⟩ = some (.int .i64 u.k) ∧ W.cell? ⟨b, o + 1, none⟩ = some (.string u.num) ∧ W.cell? ⟨b, o + 2, none⟩ = some (.string u.den) ∧ W.cell? ⟨b, o + 3, none⟩ = some (.string u.text) ∧ W.cell? ⟨b, o + 4, none⟩ = some (.bool u.on) ∧ W.cell? ⟨b, o + 5, none⟩ = some (.int .i64 u.code) ∧ W.cell? ⟨b, o + 6, none⟩ = some (.int .i64 u.rows) ∧ W.cell? ⟨b, o + 7, none⟩ = some (.int .i64 u.cols) ∧ W.cell? ⟨b, o + 8, none⟩ = some (.slice u.A u.n u.c) := by
  obtain ⟨A, c, e, -, -, h1⟩ := h
  obtain ⟨b, o, e2, hb, hc⟩ := h1 (by simp)
  obtain ⟨x1, x2, x3⟩ := x
  injection e with e3 e4 e5
  simp only [] at e3 e4 e5
  subst e3 e5
  subst e4
  refine ⟨b, o, _, by rw [e2]; rfl, hb, ?_⟩
  have hc' : ∀ j, j < 9 → W.cell? ⟨b, o + j, none⟩ = (csV u)[j]? := fun j hj => by
    have := hc 0 (by simp) j hj
    rw [show o + (0 * 9 + j) = o + j by omega] at this
    exact this
  exact ⟨hc' 0 (by decide), hc' 1 (by decide), hc' 2 (by decide), hc' 3 (by decide), hc' 4 (by decide), hc' 5 (by decide), hc' 6 (by decide), hc' 7 (by decide), hc' 8 (by decide)⟩
set_option maxRecDepth 100000 in
set_option maxHeartbeats 4000000 in
theorem keycmp_any (x y : SV) (u v : Vl) (w : World) (he : VEnv w) (hx : KR w x u) (hy : KR w y v) (hu : u.ok) (hv : v.ok) (su : u.sz) (sv' : v.sz) :
    Calls Tryz.prog 40 #[sv3 x, sv3 y] w fun e w' => e = .returned (.int .i64 (ordV u v)) ∧ Below w.heap.size w w' := by
  have HO := Lib.hid fun W (hW : Below w.heap.size w W) => order_any u v W (he.below hW) hu hv su sv'
  obtain ⟨b1, o1, c1, rfl, -, g0, g1, g2, g3, g4, g5, g6, g7, g8⟩ := hx.nine
  obtain ⟨b2, o2, c2, rfl, -, k0, k1, k2, k3, k4, k5, k6, k7, k8⟩ := hy.nine
  obtain ⟨z, hz⟩ : ∃ z, z = ordV u v := ⟨_, rfl⟩
  rw [← hz] at HO
  rw [← hz]
  obtain ⟨uk, unum, uden, utext, uon, ucode, urows, ucols, uA, un, uc⟩ := u
  obtain ⟨vk, vnum, vden, vtext, von, vcode, vrows, vcols, vA, vn, vc⟩ := v
  dsimp only at g0 g1 g2 g3 g4 g5 g6 g7 g8 k0 k1 k2 k3 k4 k5 k6 k7 k8
  have HO := Lib.hid (show ∀ W, Below w.heap.size w W → Calls Tryz.prog 69 #[.agg #[.int .i64 uk, .string unum, .string uden, .string utext, .bool uon, .int .i64 ucode, .int .i64 urows, .int .i64 ucols, .slice uA un uc], .agg #[.int .i64 vk, .string vnum, .string vden, .string vtext, .bool von, .int .i64 vcode, .int .i64 vrows, .int .i64 vcols, .slice vA vn vc]] W fun e w' => e = .returned (.tuple #[.int .i64 z, .int .i64 0]) ∧ Below W.heap.size W w' from HO.out)
  clear hz he hx hy hu hv su sv'
  show Calls Tryz.prog 40 #[.slice (some ⟨b1, o1, none⟩) 1 c1, .slice (some ⟨b2, o2, none⟩) 1 c2] w _
  go_enter Tryz.func40, Tryz.ntmps40
  go_wp2_with fail
  go_loopw [10] (fun u10 wr => (u10 = .int .i64 0 ∧ Hid (w = wr)) ∨ (u10 = .int .i64 1 ∧ z = 0 ∧ Hid (Below w.heap.size w wr))) (fun u _ => 1 - (intOf u).toNat)
  case atStart => exact .inl ⟨rfl, Lib.hid rfl⟩
  case round =>
    rcases hrel with ⟨rfl, hw⟩ | ⟨rfl, hz0, HB⟩
    · obtain rfl := hw.out
      by_cases hz0 : z = 0
      · subst hz0
        go_upto_region 4 with fail
        go_region_with (go_at_call 69; (with_reducible refine (HO.out _ (Below.refl _ _).drew).mono ?_); rintro e w1 ⟨rfl, hb⟩; have HB1 := Lib.hid (show Below w.heap.size w w1 from (Below.drew (Below.refl w.heap.size w)).trans hb); clear hb)
        all_goals
          go_wp2_with fail
          go_roundw
          case rel => exact .inr ⟨by go_num, by simp, HB1⟩
          case measure => simp [intOf]
      · have hzb : (z == 0) = false := by rw [beq_eq_false_iff_ne]; exact hz0
        go_upto_region 4 with fail
        go_region_with (go_at_call 69; (with_reducible refine (HO.out _ (Below.refl _ _).drew).mono ?_); rintro e w1 ⟨rfl, hb⟩; have HB1 := Lib.hid (show Below w.heap.size w w1 from (Below.drew (Below.refl w.heap.size w)).trans hb); clear hb)
        all_goals
          go_wp2_with fail
          go_ret
          exact ⟨rfl, HB1.out⟩
    · subst hz0
      go_wp2_with fail
      go_ret
      exact ⟨rfl, HB.out⟩
end Go.Proofs.YtmapagbmihpbmaaGreatDoor

namespace Go.Proofs.YtmapagbmihpbmaaGreatDoor
open Go.RowKit

theorem tval_ok {t : ByteArray} (h : txtE t = 0) : Vl.ok ⟨2, ⟨#[]⟩, ⟨#[]⟩, t, false, 0, 0, 0, none, 0, 0⟩ :=
  ⟨show (0 : Int) ≤ 2 by decide, show (2 : Int) ≤ 4 by decide, by simp [Vl.zB, Lib.toList_data, frSame], fun h => absurd (show (2 : Int) = 1 from h) (by decide), fun _ => h, fun h => absurd (show (2 : Int) = 4 from h) (by decide)⟩
set_option maxRecDepth 100000 in
set_option maxHeartbeats 1000000 in
theorem text_t (t : ByteArray) (w : World) (he : VEnv w) (h : txtE t = 0) (hz : t.size ≤ 9223372036854775807) :
    Calls Tryz.prog 15 #[.string t] w fun e w' => e = .returned (.agg #[.int .i64 2, .string ⟨#[]⟩, .string ⟨#[]⟩, .string t, .bool false, .int .i64 0, .int .i64 0, .int .i64 0, .slice none 0 0]) ∧ Below w.heap.size w w' := by
  have HV := Lib.hid (show ∀ W, Below w.heap.size w W → Calls Tryz.prog 33 #[.agg #[.int .i64 2, .string ⟨#[]⟩, .string ⟨#[]⟩, .string t, .bool false, .int .i64 0, .int .i64 0, .int .i64 0, .slice none 0 0]] W fun e w' => e = .returned (.agg #[.int .i64 2, .string ⟨#[]⟩, .string ⟨#[]⟩, .string t, .bool false, .int .i64 0, .int .i64 0, .int .i64 0, .slice none 0 0]) ∧ Below W.heap.size W w' from fun W hW => valid_t ⟨2, ⟨#[]⟩, ⟨#[]⟩, t, false, 0, 0, 0, none, 0, 0⟩ W (he.below hW) (tval_ok h) (show (⟨#[]⟩ : ByteArray).size ≤ 9223372036854775807 by decide) (show (⟨#[]⟩ : ByteArray).size ≤ 9223372036854775807 by decide) hz)
  clear he h hz
  have HL0 := Lib.hid ((Loc.start w).alloc' rfl 27 #[.int .i64 0, .string ⟨#[]⟩, .string ⟨#[]⟩, .string ⟨#[]⟩, .bool false, .int .i64 0, .int .i64 0, .int .i64 0, .slice none 0 0])
  go_enter Tryz.func15, Tryz.ntmps15
  go_wp2_with (go_at_call 33; (with_reducible refine (HV.out _ HL0.out.bel).mono ?_); rintro e w1 ⟨rfl, hb⟩; have HL1 := Lib.hid (HL0.out.step hb); have bz := HL1.out.blk (g := w.heap.size) (t := 27) (cs := #[.int .i64 0, .string ⟨#[]⟩, .string ⟨#[]⟩, .string ⟨#[]⟩, .bool false, .int .i64 0, .int .i64 0, .int .i64 0, .slice none 0 0]) (by simp); obtain ⟨z0, z1, z2, z3, z4, z5, z6, z7, z8⟩ := bz.nine; obtain ⟨f0, f1, f2, f3, f4, f5, f6, f7, f8⟩ := bz.ninef; obtain ⟨bs, c0, c1, c2, c3, c4, c5, c6, c7, c8⟩ := bz.nine_set (.int .i64 2) (.string ⟨#[]⟩) (.string ⟨#[]⟩) (.string t) (.bool false) (.int .i64 0) (.int .i64 0) (.int .i64 0) (.slice none 0 0); have BS := Lib.hid bs; clear bz bs hb)
  obtain ⟨q0, q1, q2, q3, q4, q5, q6, q7, q8⟩ := BS.out.nine
  refine bodyPost_ret (v := .agg #[.int .i64 2, .string ⟨#[]⟩, .string ⟨#[]⟩, .string t, .bool false, .int .i64 0, .int .i64 0, .int .i64 0, .slice none 0 0]) (by simp [results, Tryz.results15, go_sem, q0, q1, q2, q3, q4, q5, q6, q7, q8]) rfl ⟨rfl, ?_⟩
  exact below_nine HL1.out.bel (by omega) _ _ _ _ _ _ _ _ _

/-- A whole number's text. -/
def nt (n : Nat) : ByteArray := ⟨(Lib.decDigits n).toArray⟩
def one1 : ByteArray := ⟨#[49]⟩
/-- A whole number as a value. -/
def nV (n : Nat) : Vl := ⟨1, nt n, ⟨#[49]⟩, ⟨#[]⟩, false, 0, 0, 0, none, 0, 0⟩
def tV (t : ByteArray) : Vl := ⟨2, ⟨#[]⟩, ⟨#[]⟩, t, false, 0, 0, 0, none, 0, 0⟩
def zV : Vl := ⟨0, ⟨#[]⟩, ⟨#[]⟩, ⟨#[]⟩, false, 0, 0, 0, none, 0, 0⟩
theorem nt_list (n : Nat) : (nt n).data.toList = Lib.decDigits n := rfl
theorem nt_size (n : Nat) (h : n < 100000000000000000) : (nt n).size ≤ 17 := Nt.dd_le (k := 16) h
theorem pv_rd (N : Nat) (h : N < 100000000000000000) : Nt.Rd (Lib.decDigits N) [49] false N 1 := by
  have hl : (Lib.decDigits N).length ≤ 17 := Nt.dd_le (k := 16) h
  exact ⟨rfl, by rw [Lib.decDigits_one (by decide)]; rfl, by decide, fun _ => rfl, by omega, by rw [Lib.decDigits_one (by decide)]; simp, Nat.gcd_one_right _⟩
theorem pv_qk (N : Nat) (h : N < 100000000000000000) : Nt.Qk (Lib.decDigits N) [49] N 1 40 :=
  Nt.Rd.qk (pv_rd N h) (by have : (Lib.decDigits N).length ≤ 17 := Nt.dd_le (k := 16) h; omega) (by simp)
theorem nt_inj {M N : Nat} (hM : M < 100000000000000000) (hN : N < 100000000000000000) (h : nt M = nt N) : M = N := by
  have e : Lib.decDigits M = Lib.decDigits N := by rw [← nt_list, ← nt_list, h]
  have := Nt.dval_dd M
  rw [e, Nt.dval_dd] at this
  exact this.symm
theorem nV_ok (n : Nat) (h : n < 100000000000000000) : (nV n).ok := nval_ok ⟨_, _, _, pv_rd n h⟩
set_option maxRecDepth 100000 in
/-- Add of whole numbers. -/
theorem add_nat (M N : Nat) (w : World) (hM : M < 10000000000000000) (hN : N < 10000000000000000) (htab : Lib.TabIs Tryz.prog w "internal/strconv.uint64pow10" .u64 Lib.pow10Tab) :
    Calls Tryz.prog 8 #[.agg #[.string (nt M), .string ⟨#[49]⟩], .agg #[.string (nt N), .string ⟨#[49]⟩]] w fun e w' => e = .returned (.tuple #[.agg #[.string (nt (M + N)), .string ⟨#[49]⟩], .int .i64 0]) ∧ Below w.heap.size w w' :=
  (add_q (nt M) ⟨#[49]⟩ (nt N) ⟨#[49]⟩ M N 1 1 40 40 w (pv_qk M (by omega)) (pv_qk N (by omega)) (by decide) htab).mono fun e w' ⟨sn, sd, h1, h2, h3⟩ => by
    have hq := pv_qk (M + N) (by omega)
    obtain ⟨e1, e2⟩ := h2.q.same hq.q (by push_cast; simp)
    obtain rfl : sn = nt (M + N) := ba_ext e1
    obtain rfl : sd = ⟨#[49]⟩ := ba_ext e2
    exact ⟨h1, h3⟩
theorem of_t (n : Nat) (w : World) (hn : n ≤ 1000) (htab : Lib.TabIs Tryz.prog w "internal/strconv.uint64pow10" .u64 Lib.pow10Tab) :
    Calls Tryz.prog 7 #[.int .i64 (n : Int)] w fun e w' => e = .returned (.agg #[.string (nt n), .string ⟨#[49]⟩]) ∧ Below w.heap.size w w' :=
  (of_nat n w hn htab).mono fun e w' ⟨t, h1, h2, h3⟩ => by
    obtain rfl : t = nt n := ba_ext h2
    exact ⟨h1, h3⟩
theorem num_nat (n : Nat) (w : World) (he : VEnv w) (h : n < 100000000000000000) :
    Calls Tryz.prog 44 #[.agg #[.string (nt n), .string ⟨#[49]⟩]] w fun e w' => e = .returned (nV n).v ∧ Below w.heap.size w w' :=
  number_t (nt n) ⟨#[49]⟩ w he ⟨_, _, _, pv_rd n h⟩ (by have := nt_size n h; omega) (by decide)
set_option maxRecDepth 100000 in
set_option maxHeartbeats 1000000 in
theorem whole_t (n : Nat) (w : World) (hn : n ≤ 1000) (htab : Lib.TabIs Tryz.prog w "internal/strconv.uint64pow10" .u64 Lib.pow10Tab) :
    Calls Tryz.prog 16 #[.int .i64 (n : Int)] w fun e w' => e = .returned (nV n).v ∧ Below w.heap.size w w' := by
  have HO := Lib.hid fun W (hW : Below w.heap.size w W) => of_t n W hn (Lib.tabBelow_of_tabIs htab W hW)
  clear htab
  show Calls _ _ _ w fun e w' => e = .returned (.agg #[.int .i64 1, .string (nt n), .string ⟨#[49]⟩, .string ⟨#[]⟩, .bool false, .int .i64 0, .int .i64 0, .int .i64 0, .slice none 0 0]) ∧ _
  obtain ⟨t, ht⟩ : ∃ t, t = nt n := ⟨_, rfl⟩
  rw [← ht] at HO
  rw [← ht]
  clear ht
  have HL0 := Lib.hid ((Loc.start w).alloc' rfl 27 #[.int .i64 0, .string ⟨#[]⟩, .string ⟨#[]⟩, .string ⟨#[]⟩, .bool false, .int .i64 0, .int .i64 0, .int .i64 0, .slice none 0 0])
  go_enter Tryz.func16, Tryz.ntmps16
  go_wp2_with (go_at_call 7; (with_reducible refine (HO.out _ HL0.out.bel).mono ?_); rintro e w1 ⟨rfl, hb⟩; have HL1 := Lib.hid (HL0.out.step hb); have bz := HL1.out.blk (g := w.heap.size) (t := 27) (cs := #[.int .i64 0, .string ⟨#[]⟩, .string ⟨#[]⟩, .string ⟨#[]⟩, .bool false, .int .i64 0, .int .i64 0, .int .i64 0, .slice none 0 0]) (by simp); obtain ⟨z0, z1, z2, z3, z4, z5, z6, z7, z8⟩ := bz.nine; obtain ⟨f0, f1, f2, f3, f4, f5, f6, f7, f8⟩ := bz.ninef; obtain ⟨bs, c0, c1, c2, c3, c4, c5, c6, c7, c8⟩ := bz.nine_set (.int .i64 1) (.string t) (.string ⟨#[49]⟩) (.string ⟨#[]⟩) (.bool false) (.int .i64 0) (.int .i64 0) (.int .i64 0) (.slice none 0 0); have BS := Lib.hid bs; clear bz bs hb)
  obtain ⟨q0, q1, q2, q3, q4, q5, q6, q7, q8⟩ := BS.out.nine
  refine bodyPost_ret (v := .agg #[.int .i64 1, .string t, .string ⟨#[49]⟩, .string ⟨#[]⟩, .bool false, .int .i64 0, .int .i64 0, .int .i64 0, .slice none 0 0]) (by simp [results, Tryz.results16, go_sem, q0, q1, q2, q3, q4, q5, q6, q7, q8]) rfl ⟨rfl, ?_⟩
  exact below_nine HL1.out.bel (by omega) _ _ _ _ _ _ _ _ _
end Go.Proofs.YtmapagbmihpbmaaGreatDoor
