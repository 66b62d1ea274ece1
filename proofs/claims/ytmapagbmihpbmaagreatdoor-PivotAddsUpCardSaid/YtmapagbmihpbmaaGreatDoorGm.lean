/- value: rank, flag, compared. -/
import Derived.Test.YtmapagbmihpbmaaGreatDoorVbA
import Derived.Test.YtmapagbmihpbmaaGreatDoorGl
import Derived.Test.YtmapagbmihpbmaaGreatDoorGk
import Derived.Test.YtmapagbmihpbmaaGreatDoorGj
import Derived.Deep.QuietTactic
import Derived.BigQuiet
import Derived.Deep.RegionHeld3
namespace Go.Proofs.YtmapagbmihpbmaaGreatDoor
open Go.RowKit

def rk (k : Int) : Int := if k = 1 then 0 else if k = 2 then 1 else if k = 3 then 2 else if k = 4 then 3 else 4
set_option maxRecDepth 100000 in
theorem rank_any (v : Vl) (w : World) (h0 : 0 ≤ v.k) (h4 : v.k ≤ 4) :
    Calls Tryz.prog 92 #[v.v] w fun e w' => e = .returned (.int .i64 (rk v.k)) ∧ Below w.heap.size w w' := by
  obtain ⟨k, num, den, text, on, code, rows, cols, A, n, c⟩ := v
  dsimp only at h0 h4
  show Calls Tryz.prog 92 #[.agg #[.int .i64 k, .string num, .string den, .string text, .bool on, .int .i64 code, .int .i64 rows, .int .i64 cols, .slice A n c]] w fun e w' => e = .returned (.int .i64 (rk k)) ∧ Below w.heap.size w w'
  rcases (show k = 0 ∨ k = 1 ∨ k = 2 ∨ k = 3 ∨ k = 4 by omega) with rfl | rfl | rfl | rfl | rfl
  all_goals
    go_enter Tryz.func92, Tryz.ntmps92
    go_wp2
    go_ret
    exact ⟨rfl, (Below.refl _ _).alloc (Nat.le_refl _) _⟩
def flg (b : Bool) : Int := if b = true then 1 else 0
theorem flag_any (b : Bool) (w : World) : Calls Tryz.prog 113 #[.bool b] w fun e w' => e = .returned (.int .i64 (flg b)) ∧ w = w' := by
  cases b
  all_goals
    go_enter Tryz.func113, Tryz.ntmps113
    go_wp2
    go_ret
    exact ⟨rfl, rfl⟩
open Classical in
/-- The fraction that two texts stand for. -/
noncomputable def fq (num den : List UInt8) : Int × Nat := if h : ∃ p : Bool × Nat × Nat, Nt.Rd num den p.1 p.2.1 p.2.2 then (Nt.zi h.choose.1 h.choose.2.1, h.choose.2.2) else (0, 1)
theorem fq_rd {num den : List UInt8} {m : Bool} {n d : Nat} (h : Nt.Rd num den m n d) : fq num den = (Nt.zi m n, d) := by
  unfold fq
  have hx : ∃ p : Bool × Nat × Nat, Nt.Rd num den p.1 p.2.1 p.2.2 := ⟨(m, n, d), h⟩
  rw [dif_pos hx]
  obtain ⟨e1, e2, e3⟩ := h.uniq hx.choose_spec
  rw [← e1, ← e2, ← e3]
theorem fq_den (num den : List UInt8) : (fq num den).2 ≠ 0 := by
  by_cases h : ∃ p : Bool × Nat × Nat, Nt.Rd num den p.1 p.2.1 p.2.2
  · obtain ⟨p, hp⟩ := h
    rw [fq_rd hp]
    exact hp.d0
  · unfold fq
    rw [dif_neg h]
    decide
/-- How two values of one kind compare. -/
noncomputable def kCmp (a b : Vl) : Int := if a.k = 1 then Cm.fracC (fq a.num.data.toList a.den.data.toList) (fq b.num.data.toList b.den.data.toList) else if a.k = 2 then Cm.strC (lowL a.text.data.toList) (lowL b.text.data.toList) else if a.k = 3 then flg a.on - flg b.on else Cm.intC a.code b.code
theorem kCmp_1 {a b : Vl} (h : a.k = 1) : kCmp a b = Cm.fracC (fq a.num.data.toList a.den.data.toList) (fq b.num.data.toList b.den.data.toList) := if_pos h
theorem kCmp_2 {a b : Vl} (h : a.k = 2) : kCmp a b = Cm.strC (lowL a.text.data.toList) (lowL b.text.data.toList) := by unfold kCmp; rw [if_neg (by omega), if_pos h]
theorem kCmp_3 {a b : Vl} (h : a.k = 3) : kCmp a b = flg a.on - flg b.on := by unfold kCmp; rw [if_neg (by omega), if_neg (by omega), if_pos h]
theorem kCmp_4 {a b : Vl} (h : a.k = 4) : kCmp a b = Cm.intC a.code b.code := by unfold kCmp; rw [if_neg (by omega), if_neg (by omega), if_neg (by omega)]
structure Vl.sz (v : Vl) : Prop where
  s1 : v.num.size ≤ 9223372036854775807
  s2 : v.den.size ≤ 9223372036854775807
  s3 : v.text.size ≤ 9223372036854775807
theorem compare_fq (a1 a2 b1 b2 : ByteArray) (w : World) (h1 : a1.size ≤ 9223372036854775807) (h2 : a2.size ≤ 9223372036854775807) (h3 : b1.size ≤ 9223372036854775807) (h4 : b2.size ≤ 9223372036854775807)
    (ha : ∃ m n d, Nt.Rd a1.data.toList a2.data.toList m n d) (hb : ∃ m n d, Nt.Rd b1.data.toList b2.data.toList m n d) :
    Calls Tryz.prog 71 #[.agg #[.string a1, .string a2], .agg #[.string b1, .string b2]] w fun e w' => e = .returned (.tuple #[.int .i64 (Cm.fracC (fq a1.data.toList a2.data.toList) (fq b1.data.toList b2.data.toList)), .int .i64 0]) ∧ Below w.heap.size w w' := by
  obtain ⟨m1, n1, d1, r1⟩ := ha
  obtain ⟨m2, n2, d2, r2⟩ := hb
  have L : ∀ {x : Nat}, (Lib.decDigits x).length ≤ 300 → (Nt.digs x).length ≤ 400000 := fun h => Nat.le_trans (Nt.digs_len (lt_pow34 h)) (by decide)
  refine (compare_w a1 a2 b1 b2 m1 n1 d1 m2 n2 d2 w h1 h2 h3 h4 r1 r2 (L r1.ln) (L r1.ld) (L r2.ln) (L r2.ld)).mono fun e w' ⟨r, e1, e2, e3⟩ => ⟨?_, e3⟩
  rw [e1, e2, fq_rd r1, fq_rd r2]
  unfold Cm.fracC
  have z : ∀ (m : Bool) (n d : Nat), Nt.zi m (n * d) = Nt.zi m n * d := fun m n d => by cases m <;> simp [Nt.zi, Int.neg_mul]
  rw [z, z]

set_option maxRecDepth 100000 in
set_option maxHeartbeats 4000000 in
theorem compared_any (a b : Vl) (w : World) (ha : a.ok) (hb : b.ok) (hk : a.k = b.k) (hk0 : a.k ≠ 0) (sa : a.sz) (sb : b.sz) :
    Calls Tryz.prog 94 #[a.v, b.v] w fun e w' => e = .returned (.int .i64 (kCmp a b)) ∧ Below w.heap.size w w' := by
  have HC := Lib.hid (And.intro ha hb)
  have hk1 := ha.1
  have hk4 := ha.2.1
  obtain ⟨sa1, sa2, sa3⟩ := sa
  obtain ⟨sb1, sb2, sb3⟩ := sb
  have H1 := Lib.hid (kCmp_1 (a := a) (b := b))
  have H2 := Lib.hid (kCmp_2 (a := a) (b := b))
  have H3 := Lib.hid (kCmp_3 (a := a) (b := b))
  have H4 := Lib.hid (kCmp_4 (a := a) (b := b))
  clear ha hb
  generalize kCmp a b = R at *
  obtain ⟨k, num1, den1, text1, on1, code1, rows1, cols1, A1, n1, c1⟩ := a
  obtain ⟨kb, num2, den2, text2, on2, code2, rows2, cols2, A2, n2, c2⟩ := b
  dsimp only at hk hk0 hk1 hk4 sa1 sa2 sa3 sb1 sb2 sb3
  subst hk
  have HL0 := Lib.hid (((Loc.start w).alloc' rfl 27 #[.int .i64 k, .string num1, .string den1, .string text1, .bool on1, .int .i64 code1, .int .i64 rows1, .int .i64 cols1, .slice A1 n1 c1]).alloc' (g := w.heap.size + 1) (by simp) 27 #[.int .i64 k, .string num2, .string den2, .string text2, .bool on2, .int .i64 code2, .int .i64 rows2, .int .i64 cols2, .slice A2 n2 c2])
  show Calls Tryz.prog 94 #[(.agg #[.int .i64 k, .string num1, .string den1, .string text1, .bool on1, .int .i64 code1, .int .i64 rows1, .int .i64 cols1, .slice A1 n1 c1]), (.agg #[.int .i64 k, .string num2, .string den2, .string text2, .bool on2, .int .i64 code2, .int .i64 rows2, .int .i64 cols2, .slice A2 n2 c2])] w _
  rcases (show k = 1 ∨ k = 2 ∨ k = 3 ∨ k = 4 by omega) with rfl | rfl | rfl | rfl
  · have HX := Lib.hid fun W => compare_fq num1 den1 num2 den2 W sa1 sa2 sb1 sb2 (HC.out.1.2.2.2.1 rfl) (HC.out.2.2.2.2.1 rfl)
    have HR := Lib.hid (H1.out rfl)
    clear sa1 sa2 sa3 sb1 sb2 sb3 H1 H2 H3 H4 HC
    go_enter Tryz.func94, Tryz.ntmps94
    go_wp2_with (go_at_call 71; (with_reducible refine (HX.out _).mono ?_); rintro e w1 ⟨rfl, hb⟩; have HL1 := Lib.hid (HL0.out.step hb); clear hb)
    go_ret
    exact ⟨by rw [HR.out]; rfl, HL1.out.bel⟩
  · have HW := Lib.hid fun (s : ByteArray) W h => lower_any s W h
    have HCS := Lib.hid fun x y W => cmpstr_any x y W
    have HR := Lib.hid (H2.out rfl)
    clear sa1 sa2 sb1 sb2 H1 H2 H3 H4 HC
    go_enter Tryz.func94, Tryz.ntmps94
    go_upto_region 6 with fail
    have HL := Lib.hid HL0.out.drew
    have b1 := (HL.out.blk (g := w.heap.size) (t := 27) (cs := #[.int .i64 2, .string num1, .string den1, .string text1, .bool on1, .int .i64 code1, .int .i64 rows1, .int .i64 cols1, .slice A1 n1 c1]) (by simp)).cell 3
    have b2 := (HL.out.blk (g := w.heap.size + 1) (t := 27) (cs := #[.int .i64 2, .string num2, .string den2, .string text2, .bool on2, .int .i64 code2, .int .i64 rows2, .int .i64 cols2, .slice A2 n2 c2]) (by simp)).cell 3
    clear HL0
    go_region_held3 (fun w' => w'.cell? ⟨w.heap.size, 3, none⟩ = some (.string text1) ∧ w'.cell? ⟨w.heap.size + 1, 3, none⟩ = some (.string text2)) (first | exact ⟨by assumption, by assumption⟩ | go_keep) ((first
      | (go_at_call 112; first
        | ((with_reducible refine (HW.out text1 _ sa3).mono ?_); rintro e w1 ⟨rfl, hb⟩; have hl := HL.out.step hb; clear HL b1 b2; have HL := Lib.hid hl; clear hl hb; have b1 := (HL.out.blk (g := w.heap.size) (t := 27) (cs := #[.int .i64 2, .string num1, .string den1, .string text1, .bool on1, .int .i64 code1, .int .i64 rows1, .int .i64 cols1, .slice A1 n1 c1]) (by simp)).cell 3; have b2 := (HL.out.blk (g := w.heap.size + 1) (t := 27) (cs := #[.int .i64 2, .string num2, .string den2, .string text2, .bool on2, .int .i64 code2, .int .i64 rows2, .int .i64 cols2, .slice A2 n2 c2]) (by simp)).cell 3)
        | ((with_reducible refine (HW.out text2 _ sb3).mono ?_); rintro e w2 ⟨rfl, hb⟩; have hl := HL.out.step hb; clear HL b1 b2; have HL := Lib.hid hl; clear hl hb; have b1 := (HL.out.blk (g := w.heap.size) (t := 27) (cs := #[.int .i64 2, .string num1, .string den1, .string text1, .bool on1, .int .i64 code1, .int .i64 rows1, .int .i64 cols1, .slice A1 n1 c1]) (by simp)).cell 3; have b2 := (HL.out.blk (g := w.heap.size + 1) (t := 27) (cs := #[.int .i64 2, .string num2, .string den2, .string text2, .bool on2, .int .i64 code2, .int .i64 rows2, .int .i64 cols2, .slice A2 n2 c2]) (by simp)).cell 3))
      | (go_at_call 95; (with_reducible refine (HCS.out _ _ _).mono ?_); rintro e w3 ⟨rfl, rfl⟩)))
    all_goals
      go_wp2_with fail
      go_ret
      exact ⟨by rw [HR.out]; rfl, HL.out.bel⟩
  · have HR := Lib.hid (H3.out rfl)
    clear sa1 sa2 sa3 sb1 sb2 sb3 H1 H2 H3 H4 HC
    have f1 : (0 : Int) ≤ flg on1 := by cases on1 <;> decide
    have f2 : flg on1 ≤ 1 := by cases on1 <;> decide
    have f3 : (0 : Int) ≤ flg on2 := by cases on2 <;> decide
    have f4 : flg on2 ≤ 1 := by cases on2 <;> decide
    go_enter Tryz.func94, Tryz.ntmps94
    go_upto_region 8 with fail
    go_quiet ((go_at_call 113; exact Calls.quiet_of_same ((flag_any _ _).mono fun _ _ ⟨h1, h2⟩ => ⟨h1, h2.symm⟩)))
    go_wp2_with fail
    go_ret
    exact ⟨by rw [HR.out]; rfl, (HL0.out.drewN _).bel⟩
  · have HR := Lib.hid (H4.out rfl)
    clear sa1 sa2 sa3 sb1 sb2 sb3 H1 H2 H3 H4 HC
    go_enter Tryz.func94, Tryz.ntmps94
    go_wp2_with (go_at_call 91; (with_reducible refine (cmpint_any _ _ _).mono ?_); rintro e w1 ⟨rfl, rfl⟩)
    go_ret
    exact ⟨by rw [HR.out]; rfl, HL0.out.bel⟩
end Go.Proofs.YtmapagbmihpbmaaGreatDoor

namespace Go.Proofs.YtmapagbmihpbmaaGreatDoor
open Go.RowKit

theorem check_t' (v : Vl) (w : World) (he : VEnv w) (hv : v.ok) (s1 : v.num.size ≤ 9223372036854775807) (s2 : v.den.size ≤ 9223372036854775807) (s3 : v.text.size ≤ 9223372036854775807) :
    Calls Tryz.prog 34 #[v.v] w fun e w' => e = .returned (.int .i64 0) ∧ Below w.heap.size w w' :=
  (check_na v w he (fun h => by have := hv.2.1; omega) s1 s2 s3).mono fun e w' ⟨c, h1, h2, h3⟩ => by
    obtain rfl := h2.2 hv
    exact ⟨h1, h3⟩

set_option maxRecDepth 100000 in
set_option maxHeartbeats 1000000 in
theorem valid_t (v : Vl) (w : World) (he : VEnv w) (hv : v.ok) (s1 : v.num.size ≤ 9223372036854775807) (s2 : v.den.size ≤ 9223372036854775807) (s3 : v.text.size ≤ 9223372036854775807) :
    Calls Tryz.prog 33 #[v.v] w fun e w' => e = .returned v.v ∧ Below w.heap.size w w' := by
  have HC := Lib.hid fun W (hW : Below w.heap.size w W) => check_t' v W (he.below hW) hv s1 s2 s3
  clear he hv s1 s2 s3
  obtain ⟨k, num, den, text, on, code, rows, cols, A, n, c⟩ := v
  show Calls Tryz.prog 33 #[.agg #[.int .i64 k, .string num, .string den, .string text, .bool on, .int .i64 code, .int .i64 rows, .int .i64 cols, .slice A n c]] w _
  have HC := Lib.hid (show ∀ W, Below w.heap.size w W → Calls Tryz.prog 34 #[.agg #[.int .i64 k, .string num, .string den, .string text, .bool on, .int .i64 code, .int .i64 rows, .int .i64 cols, .slice A n c]] W fun e w' => e = .returned (.int .i64 0) ∧ Below W.heap.size W w' from HC.out)
  have HL0 := Lib.hid (((Loc.start w).alloc' rfl 27 #[.int .i64 k, .string num, .string den, .string text, .bool on, .int .i64 code, .int .i64 rows, .int .i64 cols, .slice A n c]).alloc' (g := w.heap.size + 1) (by simp) 27 #[.int .i64 0, .string ⟨#[]⟩, .string ⟨#[]⟩, .string ⟨#[]⟩, .bool false, .int .i64 0, .int .i64 0, .int .i64 0, .slice none 0 0])
  go_enter Tryz.func33, Tryz.ntmps33
  go_upto_region 3 with (go_at_call 34; (with_reducible refine (HC.out _ HL0.out.bel).mono ?_); rintro e w1 ⟨rfl, hb⟩; have HL1 := Lib.hid (HL0.out.step hb); clear hb)
  obtain ⟨x0, x1, x2, x3, x4, x5, x6, x7, x8⟩ := (HL1.out.blk (g := w.heap.size) (t := 27) (cs := #[.int .i64 k, .string num, .string den, .string text, .bool on, .int .i64 code, .int .i64 rows, .int .i64 cols, .slice A n c]) (by simp)).nine
  have bz := HL1.out.blk (g := w.heap.size + 1) (t := 27) (cs := #[.int .i64 0, .string ⟨#[]⟩, .string ⟨#[]⟩, .string ⟨#[]⟩, .bool false, .int .i64 0, .int .i64 0, .int .i64 0, .slice none 0 0]) (by simp)
  obtain ⟨z0, z1, z2, z3, z4, z5, z6, z7, z8⟩ := bz.nine
  obtain ⟨f0, f1, f2, f3, f4, f5, f6, f7, f8⟩ := bz.ninef
  obtain ⟨bs, s0, s1, s2, s3, s4, s5, s6, s7, s8⟩ := bz.nine_set (.int .i64 k) (.string num) (.string den) (.string text) (.bool on) (.int .i64 code) (.int .i64 rows) (.int .i64 cols) (.slice A n c)
  have BS := Lib.hid bs
  clear bz bs
  go_wp2_with fail
  obtain ⟨q0, q1, q2, q3, q4, q5, q6, q7, q8⟩ := BS.out.nine
  refine bodyPost_ret (v := .agg #[.int .i64 k, .string num, .string den, .string text, .bool on, .int .i64 code, .int .i64 rows, .int .i64 cols, .slice A n c]) (by simp [results, Tryz.results33, go_sem, q0, q1, q2, q3, q4, q5, q6, q7, q8]) rfl ⟨rfl, ?_⟩
  exact below_nine HL1.out.bel (by omega) _ _ _ _ _ _ _ _ _
/-- A number as a value. -/
def nval (num den : ByteArray) : Value := .agg #[.int .i64 1, .string num, .string den, .string ⟨#[]⟩, .bool false, .int .i64 0, .int .i64 0, .int .i64 0, .slice none 0 0]
theorem nval_ok {num den : ByteArray} (h : ∃ m n d, Nt.Rd num.data.toList den.data.toList m n d) : Vl.ok ⟨1, num, den, ⟨#[]⟩, false, 0, 0, 0, none, 0, 0⟩ :=
  ⟨show (0 : Int) ≤ 1 by decide, show (1 : Int) ≤ 4 by decide, by simp [Vl.zB, Lib.toList_data], fun _ => h, fun h => absurd (show (1 : Int) = 2 from h) (by decide), fun h => absurd (show (1 : Int) = 4 from h) (by decide)⟩
set_option maxRecDepth 100000 in
set_option maxHeartbeats 1000000 in
theorem number_t (num den : ByteArray) (w : World) (he : VEnv w) (h : ∃ m n d, Nt.Rd num.data.toList den.data.toList m n d) (s1 : num.size ≤ 9223372036854775807) (s2 : den.size ≤ 9223372036854775807) :
    Calls Tryz.prog 44 #[.agg #[.string num, .string den]] w fun e w' => e = .returned (nval num den) ∧ Below w.heap.size w w' := by
  have HV := Lib.hid (show ∀ W, Below w.heap.size w W → Calls Tryz.prog 33 #[.agg #[.int .i64 1, .string num, .string den, .string ⟨#[]⟩, .bool false, .int .i64 0, .int .i64 0, .int .i64 0, .slice none 0 0]] W fun e w' => e = .returned (.agg #[.int .i64 1, .string num, .string den, .string ⟨#[]⟩, .bool false, .int .i64 0, .int .i64 0, .int .i64 0, .slice none 0 0]) ∧ Below W.heap.size W w' from fun W hW => valid_t ⟨1, num, den, ⟨#[]⟩, false, 0, 0, 0, none, 0, 0⟩ W (he.below hW) (nval_ok h) s1 s2 (show (⟨#[]⟩ : ByteArray).size ≤ 9223372036854775807 by decide))
  clear he h s1 s2
  have HL0 := Lib.hid (((Loc.start w).alloc' rfl 24 #[.string num, .string den]).alloc' (g := w.heap.size + 1) (by simp) 27 #[.int .i64 0, .string ⟨#[]⟩, .string ⟨#[]⟩, .string ⟨#[]⟩, .bool false, .int .i64 0, .int .i64 0, .int .i64 0, .slice none 0 0])
  go_enter Tryz.func44, Tryz.ntmps44
  go_wp2_with (go_at_call 33; (with_reducible refine (HV.out _ HL0.out.bel).mono ?_); rintro e w1 ⟨rfl, hb⟩; have HL1 := Lib.hid (HL0.out.step hb); have bz := HL1.out.blk (g := w.heap.size + 1) (t := 27) (cs := #[.int .i64 0, .string ⟨#[]⟩, .string ⟨#[]⟩, .string ⟨#[]⟩, .bool false, .int .i64 0, .int .i64 0, .int .i64 0, .slice none 0 0]) (by simp); obtain ⟨z0, z1, z2, z3, z4, z5, z6, z7, z8⟩ := bz.nine; obtain ⟨f0, f1, f2, f3, f4, f5, f6, f7, f8⟩ := bz.ninef; obtain ⟨bs, c0, c1, c2, c3, c4, c5, c6, c7, c8⟩ := bz.nine_set (.int .i64 1) (.string num) (.string den) (.string ⟨#[]⟩) (.bool false) (.int .i64 0) (.int .i64 0) (.int .i64 0) (.slice none 0 0); have BS := Lib.hid bs; clear bz bs hb)
  obtain ⟨q0, q1, q2, q3, q4, q5, q6, q7, q8⟩ := BS.out.nine
  refine bodyPost_ret (v := .agg #[.int .i64 1, .string num, .string den, .string ⟨#[]⟩, .bool false, .int .i64 0, .int .i64 0, .int .i64 0, .slice none 0 0]) (by simp [results, Tryz.results44, go_sem, q0, q1, q2, q3, q4, q5, q6, q7, q8]) rfl ⟨rfl, ?_⟩
  exact below_nine HL1.out.bel (by omega) _ _ _ _ _ _ _ _ _
end Go.Proofs.YtmapagbmihpbmaaGreatDoor
