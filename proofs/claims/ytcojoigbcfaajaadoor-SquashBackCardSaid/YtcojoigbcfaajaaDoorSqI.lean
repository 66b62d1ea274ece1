/- squash: Unpack's walk. -/
import Derived.Test.YtcojoigbcfaajaaDoorSqH
namespace Go.Proofs.YtcojoigbcfaajaaDoor
open Go.RowKit

theorem ofInt64_nat (a : Nat) (ha : a < 18446744073709551616) : (BitVec.ofInt 64 (a : Int)).toNat = a := by
  rw [BitVec.ofInt_natCast, BitVec.toNat_ofNat]; exact Nat.mod_eq_of_lt (by omega)
theorem or64 (k a b : Nat) (hk : b < 2 ^ k) (h : 2 ^ k * a + b < 9223372036854775808) : bits .or .i64 ((2 ^ k * a : Nat) : Int) (b : Int) = ((2 ^ k * a + b : Nat) : Int) := by
  show IntKind.i64.wrap ((BitVec.ofInt 64 ((2 ^ k * a : Nat) : Int) ||| BitVec.ofInt 64 (b : Int)).toNat : Int) = _
  rw [BitVec.toNat_or, ofInt64_nat _ (by omega), ofInt64_nat _ (by omega), ← Nat.two_pow_add_eq_or_of_lt hk]
  exact IntWalk.i64_in _ (by omega)
theorem below_drewN {B : Nat} {w W : World} (h : Below B w W) (n : Nat) : Below B w (W.drewN n) := ⟨h.os, h.tape, h.output, h.size, h.block⟩
theorem len1 : ∀ k : Fin 256, bits .and .i64 (wrap64 (k.val : Int)) 15 = ((k.val % 16 : Nat) : Int) ∧ bits .and .i64 (wrap64 (k.val : Int) / 16) 15 = ((k.val / 16 % 16 : Nat) : Int) := by decide +kernel
namespace Sq
/-- The length that a packed string states. -/
def headN (s : ByteArray) : Nat := (s.data.toList.getD 0 0).toNat * 16777216 + (s.data.toList.getD 1 0).toNat * 65536 + (s.data.toList.getD 2 0).toNat * 256 + (s.data.toList.getD 3 0).toNat
theorem headN_le (s : ByteArray) : headN s ≤ 4294967295 := by
  unfold headN
  have h0 := (s.data.toList.getD 0 0).toNat_lt
  have h1 := (s.data.toList.getD 1 0).toNat_lt
  have h2 := (s.data.toList.getD 2 0).toNat_lt
  have h3 := (s.data.toList.getD 3 0).toNat_lt
  omega
theorem w64 (x : Int) (h : -9223372036854775808 ≤ x ∧ x ≤ 9223372036854775807) : wrap64 x = x := by
  unfold wrap64
  omega
theorem head_eq (s : ByteArray) (h : 3 < s.size) : bits .or .i64 (bits .or .i64 (bits .or .i64 (wrap64 (wrap64 (s[0].toNat : Int) * 16777216)) (wrap64 (wrap64 (s[1].toNat : Int) * 65536))) (wrap64 (wrap64 (s[2].toNat : Int) * 256))) (wrap64 (s[3].toNat : Int)) = (headN s : Int) := by
  unfold headN
  rw [getD_at s 0 (by omega), getD_at s 1 (by omega), getD_at s 2 (by omega), getD_at s 3 (by omega)]
  have h0 := s[0].toNat_lt
  have h1 := s[1].toNat_lt
  have h2 := s[2].toNat_lt
  have h3 := s[3].toNat_lt
  obtain ⟨a, ha⟩ : ∃ a, a = s[0].toNat := ⟨_, rfl⟩
  obtain ⟨b, hb⟩ : ∃ a, a = s[1].toNat := ⟨_, rfl⟩
  obtain ⟨c, hc⟩ : ∃ a, a = s[2].toNat := ⟨_, rfl⟩
  obtain ⟨d, hd⟩ : ∃ a, a = s[3].toNat := ⟨_, rfl⟩
  rw [← ha, ← hb, ← hc, ← hd]
  rw [← ha] at h0; rw [← hb] at h1; rw [← hc] at h2; rw [← hd] at h3
  rw [w64 (a : Int) (by omega), w64 (b : Int) (by omega), w64 (c : Int) (by omega), w64 (d : Int) (by omega), w64 ((a : Int) * 16777216) (by omega), w64 ((b : Int) * 65536) (by omega), w64 ((c : Int) * 256) (by omega)]
  have e1 := or64 24 a (b * 65536) (by omega) (by omega)
  have e2 := or64 16 (a * 256 + b) (c * 256) (by omega) (by omega)
  have e3 := or64 8 (a * 65536 + b * 256 + c) d (by omega) (by omega)
  rw [show (a : Int) * 16777216 = ((2 ^ 24 * a : Nat) : Int) by omega, show (b : Int) * 65536 = ((b * 65536 : Nat) : Int) by omega, e1,
    show 2 ^ 24 * a + b * 65536 = 2 ^ 16 * (a * 256 + b) by omega, show (c : Int) * 256 = ((c * 256 : Nat) : Int) by omega, e2,
    show 2 ^ 16 * (a * 256 + b) + c * 256 = 2 ^ 8 * (a * 65536 + b * 256 + c) by omega, e3]
  congr 1
  omega
/-- The length of a symbol's code. -/
def lenF (t : ByteArray) (i : Nat) : Nat := (t.data.toList.getD (i / 2) 0).toNat / 2 ^ (4 - 4 * (i % 2)) % 16
def unpkT (n m : Nat) (t : ByteArray) : Nat × ByteArray :=
  if 1 < m then (8, ByteArray.empty)
  else if m = 0 then (if t.size < n then (11, ByteArray.empty) else if n < t.size then (4, ByteArray.empty) else (0, t))
  else if t.size < 136 then (11, ByteArray.empty)
  else if smT (lenF t) 16 ≤ 32768 then ((unpF (lenF t) (t.extract 136 t.size) n 0).1, toB (unpF (lenF t) (t.extract 136 t.size) n 0).2)
  else (4, ByteArray.empty)
/-- What Unpack answers. -/
def unpkF (s : ByteArray) : Nat × ByteArray :=
  if s.size < 5 then (11, ByteArray.empty) else unpkT (headN s) (s.data.toList.getD 4 0).toNat (s.extract 5 s.size)
end Sq
theorem below_drew2 {B : Nat} {w W : World} (h : Below B w W) : Below B w W.drew := ⟨h.os, h.tape, h.output, h.size, h.block⟩
theorem size_alloc (w : World) (o : Obj) : (w.alloc o).heap.size = w.heap.size + 1 := by simp
section
variable (L : Nat → Nat) (t : ByteArray) (n : Nat) (w w2 w3 : World) (v : Value) (he : SEnv w) (hb2 : Below w.heap.size w w2) (hs : t.size ≤ 1125899906842624) (hn : n ≤ 4294967295)
include he hb2 hs hn
/-- The reader is made first. -/
theorem unp_A (hd : DB w3 (w2.drew.alloc (.cells #[.string t, .int .i64 0] 47)).heap.size (Sq.dcf L 16) v) (hr : R1 3 .i64 w3 ((w2.drew.alloc (.cells #[.string t, .int .i64 0] 47)).heap.size + 1) v (Sq.lsU L 16))
    (hb : Below (w2.drew.alloc (.cells #[.string t, .int .i64 0] 47)).heap.size (w2.drew.alloc (.cells #[.string t, .int .i64 0] 47)) w3) :
    Calls Tryd.prog 13 #[.pointer (some ⟨w2.heap.size, 0, none⟩), .pointer (some ⟨w2.heap.size + 1, 0, none⟩), .int .i64 n] w3 fun e w' => e = .returned (.tuple #[.string (Sq.toB (Sq.unpF L t n 0).2), .int .i64 ((Sq.unpF L t n 0).1 : Nat)]) ∧ Below w.heap.size w w' := by
  have e : (w2.drew.alloc (.cells #[.string t, .int .i64 0] 47)).heap.size = w2.heap.size + 1 := size_alloc _ _
  rw [e] at hd hr hb
  have hsz := hb2.size
  have hlt := hd.lt
  have hwl := he.lt
  have hrd : Rd w3 w2.heap.size t 0 := Blk.below (Blk.new w2.drew 47 #[.string t, .int .i64 0]) hb (Nat.lt_succ_self _)
  have hB3 : Below w.heap.size w w3 := ((below_drew2 hb2).alloc hsz _).trans (hb.mono (Nat.le_succ_of_le hsz))
  refine (unpacked_any L (w2.heap.size + 1) w2.heap.size t n 0 w3 ⟨v, hd, hr.mono (Nat.zero_le _), fun g hg => by have := (hr.lt g hg).1; omega⟩ hrd (by omega) (by omega) (he.chg (Chg.of hB3 []) hwl (by simp)) (by omega) (Nat.zero_le _) (by omega) hs).mono ?_
  rintro e w4 ⟨h1, h2⟩
  exact ⟨h1, hB3.trans (h2.below hB3.size (by simp; exact hsz))⟩
/-- The decoder is made first. -/
theorem unp_B (hd : DB w3 w2.drew.heap.size (Sq.dcf L 16) v) (hr : R1 3 .i64 w3 (w2.drew.heap.size + 1) v (Sq.lsU L 16)) (hb : Below w2.drew.heap.size w2.drew w3) :
    Calls Tryd.prog 13 #[.pointer (some ⟨w3.heap.size, 0, none⟩), .pointer (some ⟨w2.heap.size, 0, none⟩), .int .i64 n] (w3.alloc (.cells #[.string t, .int .i64 0] 47)) fun e w' => e = .returned (.tuple #[.string (Sq.toB (Sq.unpF L t n 0).2), .int .i64 ((Sq.unpF L t n 0).1 : Nat)]) ∧ Below w.heap.size w w' := by
  have hsz := hb2.size
  have hlt : w2.heap.size < w3.heap.size := hd.lt
  have hwl := he.lt
  have hB3 : Below w.heap.size w w3 := (below_drew2 hb2).trans (hb.mono hsz)
  have hB4 : Below w.heap.size w (w3.alloc (.cells #[.string t, .int .i64 0] 47)) := hB3.alloc hB3.size _
  refine (unpacked_any L w2.heap.size w3.heap.size t n 0 _ ⟨v, hd.alloc _, (hr.mono (Nat.zero_le _)).alloc _, fun g hg => by have := (hr.lt g hg).2; omega⟩ (Blk.new w3 47 #[.string t, .int .i64 0]) (by rw [size_alloc]; omega) (by omega) (he.chg (Chg.of hB4 []) hwl (by simp)) (by have := hB3.size; omega) (Nat.zero_le _) (by omega) hs).mono ?_
  rintro e w4 ⟨h1, h2⟩
  exact ⟨h1, hB4.trans (h2.below hB4.size (by simp; exact hB3.size))⟩
end
set_option maxRecDepth 100000 in
set_option maxHeartbeats 4000000 in
theorem Unpack_any (s : ByteArray) (w : World) (he : SEnv w) (hs : s.size ≤ 1125899906842624) :
    Calls Tryd.prog 6 #[.string s] w fun e w' => e = .returned (.tuple #[.string (Sq.unpkF s).2, .int .i64 ((Sq.unpkF s).1 : Nat)]) ∧ Below w.heap.size w w' := by
  have HE := Lib.hid he
  clear he
  by_cases h5 : s.size < 5
  · have hz : (s.size : Int) < 5 := by omega
    rw [show Sq.unpkF s = (11, ByteArray.empty) from if_pos h5]
    go_enter Tryd.func6, Tryd.ntmps6
    go_wp2
    go_ret2
    exact ⟨rfl, Below.refl _ _⟩
  · have hz : ¬ (s.size : Int) < 5 := by omega
    have i0 : 0 < s.size := by omega
    have i1 : 1 < s.size := by omega
    have i2 : 2 < s.size := by omega
    have i3 : 3 < s.size := by omega
    have i4 : 4 < s.size := by omega
    have j0 : (0 : Int) < s.size := by omega
    have j1 : (1 : Int) < s.size := by omega
    have j2 : (2 : Int) < s.size := by omega
    have j3 : (3 : Int) < s.size := by omega
    have j4 : (4 : Int) < s.size := by omega
    have j5 : (5 : Int) ≤ s.size := by omega
    have hn := Sq.head_eq s i3
    have bn := Sq.headN_le s
    rw [show Sq.unpkF s = Sq.unpkT (Sq.headN s) (s.data.toList.getD 4 0).toNat (s.extract 5 s.size) from if_neg h5, getD_at s 4 i4]
    obtain ⟨n, hN⟩ : ∃ n, n = Sq.headN s := ⟨_, rfl⟩
    rw [← hN] at hn bn
    rw [← hN]
    obtain ⟨m, hM⟩ : ∃ m, s[4].toNat = m := ⟨_, rfl⟩
    have bm : m < 256 := by have := s[4].toNat_lt; omega
    rw [hM]
    obtain ⟨t, hT⟩ : ∃ t, s.extract 5 s.size = t := ⟨_, rfl⟩
    have ht : t.size = s.size - 5 := by rw [← hT, ByteArray.size_extract, Nat.min_self]
    have ht2 : t.size ≤ 1125899906842624 := by omega
    rw [hT]
    obtain ⟨RT, hRT⟩ : ∃ RT, RT = Sq.unpkT n m t := ⟨_, rfl⟩
    rw [← hRT]
    unfold Sq.unpkT at hRT
    clear hN h5 ht
    by_cases hm1 : 1 < m
    · rw [if_pos hm1] at hRT
      have HRT := Lib.hid hRT
      clear hRT
      go_enter Tryd.func6, Tryd.ntmps6
      go_wp2_with fail
      go_quiet (fail)
      go_wp2_with fail
      go_ret2
      rw [HRT.out]
      exact ⟨rfl, below_drewN (Below.refl _ _) _⟩
    · rw [if_neg hm1] at hRT
      by_cases hm0 : m = 0
      · subst hm0
        rw [if_pos rfl] at hRT
        by_cases h1 : t.size < n
        · have h1z : (t.size : Int) < (n : Int) := by omega
          rw [if_pos h1] at hRT
          have HRT := Lib.hid hRT
          clear hRT
          go_enter Tryd.func6, Tryd.ntmps6
          go_wp2_with fail
          go_quiet (fail)
          go_wp2_with fail
          go_ret2
          rw [HRT.out]
          exact ⟨rfl, below_drewN (Below.refl _ _) _⟩
        · have h1z : ¬ (t.size : Int) < (n : Int) := by omega
          rw [if_neg h1] at hRT
          by_cases h2 : n < t.size
          · have h2z : (n : Int) < (t.size : Int) := by omega
            rw [if_pos h2] at hRT
            have HRT := Lib.hid hRT
            clear hRT
            go_enter Tryd.func6, Tryd.ntmps6
            go_wp2_with fail
            go_quiet (fail)
            go_wp2_with fail
            go_ret2
            rw [HRT.out]
            exact ⟨rfl, below_drewN (Below.refl _ _) _⟩
          · have h2z : ¬ (n : Int) < (t.size : Int) := by omega
            rw [if_neg h2] at hRT
            have HRT := Lib.hid hRT
            clear hRT
            go_enter Tryd.func6, Tryd.ntmps6
            go_wp2_with fail
            go_quiet (fail)
            go_wp2_with fail
            go_ret2
            rw [HRT.out]
            exact ⟨rfl, below_drewN (Below.refl _ _) _⟩
      · obtain rfl : m = 1 := by omega
        rw [if_neg (by decide)] at hRT
        by_cases h3 : t.size < 136
        · have h3z : (t.size : Int) < 136 := by omega
          rw [if_pos h3] at hRT
          have HRT := Lib.hid hRT
          clear hRT
          go_enter Tryd.func6, Tryd.ntmps6
          go_wp2_with fail
          go_quiet (fail)
          go_wp2_with fail
          go_ret2
          rw [HRT.out]
          exact ⟨rfl, below_drewN (Below.refl _ _) _⟩
        · have h3z : ¬ (t.size : Int) < 136 := by omega
          have h3y : (136 : Int) ≤ (t.size : Int) := by omega
          rw [if_neg h3] at hRT
          obtain ⟨L, hL⟩ : ∃ L, L = Sq.lenF t := ⟨_, rfl⟩
          rw [← hL] at hRT
          have HL := Lib.hid hL
          have HT := Lib.hid hRT
          have ht3 : 136 ≤ t.size := by omega
          clear hL hRT
          go_enter Tryd.func6, Tryd.ntmps6
          go_wp2_with fail
          go_quiet (fail)
          have HB0 := Lib.hid (below_drewN (Below.refl w.heap.size w) nq)
          obtain ⟨w0, hw0⟩ : ∃ w0, w0 = w.drewN nq := ⟨_, rfl⟩
          have hw0s : w0.heap.size = w.heap.size := by rw [hw0]; rfl
          rw [← hw0] at HB0
          rw [← hw0]
          clear hw0
          go_wp2_with (refine wp_makeI rfl _ _ rfl w0.heap.size 272 272 272 rfl rfl rfl rfl (by decide) (Nat.le_refl _) ?_; intro w1 hr1 hb1 hs1; have hz1 := RF.zero hr1; rw [hw0s] at hz1; have HZ := Lib.hid hz1; clear hz1; have HB1 := Lib.hid (HB0.out.trans (hb1.mono (Nat.le_of_eq hw0s.symm))); clear hr1 hb1)
          go_loopw [7, 67] (fun _ u67 wr => ∃ i : Nat, i ≤ 272 ∧ u67 = .int .i64 i ∧ Hid (Below w.heap.size w wr) ∧ Hid (RF 272 wr w.heap.size w.heap.size fun x => if x < i then L x else 0)) (fun _ u _ => 272 - (intOf u).toNat)
          case atStart => exact ⟨0, by omega, rfl, HB1, Lib.hid (HZ.out.congr fun x _ => by rw [if_neg (by omega)])⟩
          case round =>
            clear HB0 HB1 HZ hs1
            obtain ⟨i, hi, rfl, HB, HR⟩ := hrel
            by_cases hi2 : i < 272
            · have hiz : (i : Int) < 272 := by omega
              obtain ⟨q, hq⟩ : ∃ q, q = i / 2 := ⟨_, rfl⟩
              have eq : (i : Int) / 2 = (q : Int) := by omega
              have hqt : q < t.size := by omega
              have hqz : (q : Int) < (t.size : Int) := by omega
              have hfz := HR.out.frozen i
              have hcl := HR.out.cell hi2
              have HLe := Lib.hid (show L i = t[q].toNat / 2 ^ (4 - 4 * (i % 2)) % 16 by rw [HL.out, Sq.lenF, ← hq, getD_at t q hqt])
              have hln := len1 ⟨t[q].toNat, t[q].toNat_lt⟩
              simp only [] at hln
              obtain ⟨hln1, hln2⟩ := hln
              rcases (show i % 2 = 0 ∨ i % 2 = 1 by omega) with h2 | h2
              · have e2 : (i : Int) % 2 = 0 := by omega
                have HLf := Lib.hid (show L i = t[q].toNat / 16 % 16 by rw [HLe.out, h2])
                clear hq h2 HLe
                go_wp2_with fail
                go_roundw
                case rel =>
                  refine ⟨i + 1, by omega, by go_num, Lib.hid (HB.out.setCell (Nat.le_refl _) _), Lib.hid ?_⟩
                  have h9 := HR.out.set i (L i)
                  rw [HLf.out] at h9
                  refine h9.congr fun x hx => ?_
                  by_cases hxi : x = i
                  · subst hxi; rw [if_pos rfl, if_pos (by omega), HLf.out]
                  · rw [if_neg hxi]
                    by_cases hx2 : x < i
                    · rw [if_pos hx2, if_pos (by omega)]
                    · rw [if_neg hx2, if_neg (by omega)]
                case measure => simp [intOf]; omega
              · have e2 : (i : Int) % 2 = 1 := by omega
                have HLf := Lib.hid (show L i = t[q].toNat % 16 by rw [HLe.out, h2]; simp)
                clear hq h2 HLe
                go_wp2_with fail
                go_roundw
                case rel =>
                  refine ⟨i + 1, by omega, by go_num, Lib.hid (HB.out.setCell (Nat.le_refl _) _), Lib.hid ?_⟩
                  have h9 := HR.out.set i (L i)
                  rw [HLf.out] at h9
                  refine h9.congr fun x hx => ?_
                  by_cases hxi : x = i
                  · subst hxi; rw [if_pos rfl, if_pos (by omega), HLf.out]
                  · rw [if_neg hxi]
                    by_cases hx2 : x < i
                    · rw [if_pos hx2, if_pos (by omega)]
                    · rw [if_neg hx2, if_neg (by omega)]
                case measure => simp [intOf]; omega
            · obtain rfl : i = 272 := by omega
              have HRL := Lib.hid (HR.out.congr (f' := L) fun x hx => if_pos hx)
              clear HR
              have HC := Lib.hid (codes_any L w.heap.size 272 w.heap.size wr HRL.out)
              by_cases hsm : Sq.smT L 16 ≤ 32768
              · have hdc : decide (Sq.smT L 16 ≤ 32768) = true := decide_eq_true hsm
                have HRT := HT.out
                rw [if_pos hsm] at HRT
                have HRT2 := Lib.hid HRT
                have HS2 := Lib.hid (show (t.extract 136 t.size).size ≤ 1125899906842624 by rw [ByteArray.size_extract]; omega)
                clear HRT
                have HND := Lib.hid fun W (h : RF 272 W w.heap.size w.heap.size L) => newDec_any L w.heap.size 272 w.heap.size W h
                go_wp2_with (go_at_call 11; (with_reducible refine HC.out.mono ?_); rintro e w2 ⟨h, rfl, hrf, hb⟩; have HB2 := Lib.hid (HB.out.trans (hb.mono (HB.out.size))); have HR2 := Lib.hid (HRL.out.later hb); clear hrf hb)
                go_region_with (first | (go_at_call 14; refine (HND.out _ ?_).mono ?_; (first | exact (HR2.out.drew).alloc _ | exact HR2.out.drew | exact HR2.out.alloc _ | exact HR2.out); rintro e w3 ⟨v, rfl, hd, hr, hb⟩; have HD3 := Lib.hid hd; have HR3 := Lib.hid hr; have HB3 := Lib.hid hb; clear hd hr hb) | (go_at_call 13; (first | refine (unp_A L (t.extract 136 t.size) n w w2 w3 v HE.out HB2.out HS2.out bn HD3.out HR3.out HB3.out).mono ?_ | refine (unp_B L (t.extract 136 t.size) n w w2 w3 v HE.out HB2.out HS2.out bn HD3.out HR3.out HB3.out).mono ?_); rintro e w4 ⟨rfl, hc⟩; have HC4 := Lib.hid hc; clear hc) | fail)
                all_goals
                  go_wp2_with fail
                  go_ret2
                  rw [HRT2.out]
                  exact ⟨rfl, HC4.out⟩
              · have hdc : decide (Sq.smT L 16 ≤ 32768) = false := decide_eq_false hsm
                have HRT := HT.out
                rw [if_neg hsm] at HRT
                have HRT := Lib.hid HRT
                go_wp2_with (go_at_call 11; (with_reducible refine HC.out.mono ?_); rintro e w2 ⟨h, rfl, hrf, hb⟩; have HB2 := Lib.hid (HB.out.trans (hb.mono (HB.out.size))); clear hrf hb)
                go_ret2
                rw [HRT.out]
                exact ⟨rfl, HB2.out⟩
end Go.Proofs.YtcojoigbcfaajaaDoor
