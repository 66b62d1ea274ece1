/- Plain: comparisons with three answers: what makes one order of them. -/
import Derived.Test.YtmmlcponmdalmaaGreatDoorRows
import Derived.Test.YtmmlcponmdalmaaGreatDoorMem
import Derived.Test.YtmmlcponmdalmaaGreatDoorMem3
import Derived.WalkKit
import Derived.WalkLawsBesides
import Derived.Outline
import Derived.Lib.Hide
import Derived.Lib.Strings
import Derived.LoopTactic
import Derived.Test.YtmmlcponmdalmaaGreatDoorVpH
import Derived.Test.YtmmlcponmdalmaaGreatDoorExH
import Derived.Test.YtmmlcponmdalmaaGreatDoorExO
import Derived.Deep.QuietTactic
import Derived.BigQuiet
import Derived.Deep.RegionHeld3
namespace Go.Proofs.YtmmlcponmdalmaaGreatDoor.Cm

/-- A comparison: turned round it changes its sign, and what is not greater goes on. -/
structure IsC {α : Type} (f : α → α → Int) : Prop where
  anti : ∀ a b, f a b = - f b a
  trans : ∀ a b c, f a b ≤ 0 → f b c ≤ 0 → f a c ≤ 0
theorem IsC.lt {α : Type} {f : α → α → Int} (h : IsC f) {a b c : α} (h1 : f a b < 0) (h2 : f b c ≤ 0) : f a c < 0 := by
  rcases Int.lt_or_le (f a c) 0 with h3 | h3
  · exact h3
  · exfalso
    have e1 := h.anti a c
    have e2 := h.anti a b
    have := h.trans b c a h2 (by omega)
    omega
theorem IsC.lt' {α : Type} {f : α → α → Int} (h : IsC f) {a b c : α} (h1 : f a b ≤ 0) (h2 : f b c < 0) : f a c < 0 := by
  rcases Int.lt_or_le (f a c) 0 with h3 | h3
  · exact h3
  · exfalso
    have e1 := h.anti a c
    have e2 := h.anti b c
    have := h.trans c a b (by omega) h1
    omega
/-- One comparison, and another one where the first sees no difference. -/
def orC {α : Type} (f g : α → α → Int) (a b : α) : Int := if f a b ≠ 0 then f a b else g a b
theorem IsC.or {α : Type} {f g : α → α → Int} (hf : IsC f) (hg : IsC g) : IsC (orC f g) := by
  refine ⟨fun a b => ?_, fun a b c h1 h2 => ?_⟩
  · have e1 := hf.anti a b
    have e2 := hg.anti a b
    unfold orC
    split <;> split <;> omega
  · unfold orC at *
    have t := hf.trans a b c
    have g' := hg.trans a b c
    have l1 := @IsC.lt _ _ hf a b c
    have l2 := @IsC.lt' _ _ hf a b c
    split at h1 <;> split at h2 <;> split <;> omega
theorem IsC.map {α β : Type} {f : β → β → Int} (h : IsC f) (k : α → β) : IsC (fun a b => f (k a) (k b)) := ⟨fun _a _b => h.anti _ _, fun _a _b _c => h.trans _ _ _⟩
def intC (a b : Int) : Int := if a < b then -1 else if b < a then 1 else 0
theorem intC_anti (a b : Int) : intC a b = - intC b a := by
  unfold intC
  split <;> split <;> omega
theorem intC_trans (a b c : Int) (h1 : intC a b ≤ 0) (h2 : intC b c ≤ 0) : intC a c ≤ 0 := by
  unfold intC at *
  repeat' split at h1
  all_goals repeat' split at h2
  all_goals repeat' split
  all_goals omega
theorem intC_is : IsC intC := ⟨intC_anti, intC_trans⟩
theorem subC_is : IsC (fun a b : Int => a - b) := ⟨fun a b => by omega, fun a b c h1 h2 => by omega⟩
/-- Strings, byte by byte. -/
def strC (a b : List UInt8) : Int := if Op.bytesLess a b then -1 else if Op.bytesLess b a then 1 else 0
theorem strC_cons (x y : UInt8) (s t : List UInt8) : strC (x :: s) (y :: t) = if x.toNat < y.toNat then -1 else if y.toNat < x.toNat then 1 else strC s t := by
  unfold strC
  simp only [Op.bytesLess, Bool.or_eq_true, decide_eq_true_eq, Bool.and_eq_true, beq_iff_eq, UInt8.lt_iff_toNat_lt]
  by_cases h1 : x.toNat < y.toNat
  · rw [if_pos (.inl h1), if_pos h1]
  · by_cases h2 : y.toNat < x.toNat
    · have hne : x ≠ y := fun e => by subst e; omega
      rw [if_neg (fun h => h.elim h1 fun h => hne h.1), if_pos (.inl h2), if_neg h1, if_pos h2]
    · obtain rfl : x = y := UInt8.toNat_inj.1 (by omega)
      simp
theorem strC_nil (t : List UInt8) : strC [] t = if t = [] then 0 else -1 := by
  cases t <;> simp [strC, Op.bytesLess]
theorem strC_nil' (t : List UInt8) : strC t [] = if t = [] then 0 else 1 := by
  cases t <;> simp [strC, Op.bytesLess]
theorem strC_anti : ∀ a b, strC a b = - strC b a
  | [], b => by rw [strC_nil, strC_nil']; split <;> rfl
  | x :: s, [] => by rw [strC_nil, strC_nil']; simp
  | x :: s, y :: t => by
    rw [strC_cons, strC_cons, strC_anti s t]
    split <;> split <;> omega
theorem strC_zero : ∀ {a b}, strC a b = 0 → a = b
  | [], b, h => by rw [strC_nil] at h; split at h <;> simp_all
  | x :: s, [], h => by rw [strC_nil'] at h; simp at h
  | x :: s, y :: t, h => by
    rw [strC_cons] at h
    split at h
    · simp at h
    · split at h
      · simp at h
      · obtain rfl : x = y := UInt8.toNat_inj.1 (by omega)
        rw [strC_zero h]
theorem strC_trans : ∀ a b c, strC a b ≤ 0 → strC b c ≤ 0 → strC a c ≤ 0
  | [], b, c, _, _ => by rw [strC_nil]; split <;> decide
  | x :: s, [], c, h, _ => by rw [strC_nil'] at h; simp at h
  | x :: s, y :: t, [], _, h => by rw [strC_nil'] at h; simp at h
  | x :: s, y :: t, z :: u, h1, h2 => by
    have ih := strC_trans s t u
    rw [strC_cons] at h1 h2 ⊢
    repeat' split at h1
    all_goals repeat' split at h2
    all_goals repeat' split
    all_goals first | omega | (exact ih h1 h2) | (exfalso; omega)
theorem strC_is : IsC strC := ⟨strC_anti, strC_trans⟩
/-- Fractions with denominators that are not zero. -/
def fracC (a b : Int × Nat) : Int := Int.sign (a.1 * b.2 - b.1 * a.2)
theorem sign_le {x : Int} : Int.sign x ≤ 0 ↔ x ≤ 0 := by
  rcases Int.lt_trichotomy x 0 with h | h | h
  · rw [Int.sign_eq_neg_one_of_neg h]; omega
  · subst h; simp
  · rw [Int.sign_eq_one_of_pos h]; omega
theorem fracC_anti (a b : Int × Nat) : fracC a b = - fracC b a := by
  unfold fracC
  rw [← Int.sign_neg]
  congr 1
  omega
theorem fracC_trans (a b c : Int × Nat) (ha : a.2 ≠ 0) (hb : b.2 ≠ 0) (hc : c.2 ≠ 0) (h1 : fracC a b ≤ 0) (h2 : fracC b c ≤ 0) : fracC a c ≤ 0 := by
  unfold fracC at *
  rw [sign_le] at *
  obtain ⟨x, p⟩ := a
  obtain ⟨y, q⟩ := b
  obtain ⟨z, r⟩ := c
  dsimp only at *
  have hq : (0 : Int) < q := by omega
  have e1 : x * q * r ≤ y * p * r := Int.mul_le_mul_of_nonneg_right (by omega) (by omega)
  have e2 : y * r * p ≤ z * q * p := Int.mul_le_mul_of_nonneg_right (by omega) (by omega)
  have e3 : q * (x * r) ≤ q * (z * p) := by
    have a1 : (q : Int) * (x * r) = x * q * r := by ac_rfl
    have a2 : (q : Int) * (z * p) = z * q * p := by ac_rfl
    have a3 : y * (p : Int) * r = y * r * p := by ac_rfl
    omega
  have := Int.le_of_mul_le_mul_left e3 hq
  omega
/-- What the law asks of three answers. -/
theorem law {α : Type} {f : α → α → Int} (hf : IsC f) (a b c : α) : f a b = - f b a ∧ (0 < f a b ∨ 0 < f b c ∨ f a c ≤ 0) ∧ (f a b < 0 ∨ f b c < 0 ∨ 0 ≤ f a c) := by
  have t1 := hf.trans a b c
  have t2 := hf.trans c b a
  have e1 := hf.anti a b
  have e2 := hf.anti b c
  have e3 := hf.anti a c
  exact ⟨e1, by omega, by omega⟩
end Go.Proofs.YtmmlcponmdalmaaGreatDoor.Cm

namespace Go.Proofs.YtmmlcponmdalmaaGreatDoor
open Go.RowKit

theorem nan_str (s : ByteArray) (w : World) : Calls Tryz.prog 130 #[.string s] w fun e w' => e = .returned (.bool false) ∧ w = w' := by
  go_enter Tryz.func130, Tryz.ntmps130
  go_wp2
  go_ret
  exact ⟨by simp, rfl⟩
theorem less_asym : ∀ {a b : List UInt8}, Op.bytesLess a b = true → Op.bytesLess b a = false := fun {a b} h => by
  have h1 := Cm.strC_anti a b
  have h2 : Cm.strC a b = -1 := by unfold Cm.strC; rw [if_pos h]
  cases hb : Op.bytesLess b a with
  | false => rfl
  | true =>
    have h3 : Cm.strC b a = -1 := by unfold Cm.strC; rw [if_pos hb]
    omega
set_option maxRecDepth 100000 in
theorem cmpstr_any (x y : ByteArray) (w : World) : Calls Tryz.prog 79 #[.string x, .string y] w fun e w' => e = .returned (.int .i64 (Cm.strC x.data.toList y.data.toList)) ∧ w = w' := by
  have HN := Lib.hid fun s W => nan_str s W
  have ex : x.toList = x.data.toList := Lib.toList_data x
  have ey : y.toList = y.data.toList := Lib.toList_data y
  rw [← ex, ← ey]
  clear ex ey
  cases h1 : Op.bytesLess x.toList y.toList with
  | true =>
    have HS := Lib.hid (show Cm.strC x.toList y.toList = -1 from by unfold Cm.strC; rw [if_pos h1])
    go_enter Tryz.func79, Tryz.ntmps79
    go_wp2_with (go_at_call 130; (with_reducible refine (HN.out _ _).mono ?_); rintro e w1 ⟨rfl, rfl⟩)
    go_ret
    exact ⟨by rw [HS.out]; rfl, rfl⟩
  | false =>
    cases h2 : Op.bytesLess y.toList x.toList with
    | true =>
      have hne : (x.toList == y.toList) = false := by
        rw [beq_eq_false_iff_ne]
        intro e
        rw [e] at h2
        have := less_asym h2
        rw [h2] at this
        cases this
      have HS := Lib.hid (show Cm.strC x.toList y.toList = 1 from by unfold Cm.strC; rw [if_neg (by rw [h1]; decide), if_pos h2])
      go_enter Tryz.func79, Tryz.ntmps79
      go_wp2_with (go_at_call 130; (with_reducible refine (HN.out _ _).mono ?_); rintro e w1 ⟨rfl, rfl⟩)
      go_ret
      exact ⟨by rw [HS.out]; rfl, rfl⟩
    | false =>
      have HS0 : Cm.strC x.toList y.toList = 0 := by unfold Cm.strC; rw [if_neg (by rw [h1]; decide), if_neg (by rw [h2]; decide)]
      have hne : (x.toList == y.toList) = true := by rw [beq_iff_eq]; exact Cm.strC_zero HS0
      have HS := Lib.hid HS0
      clear HS0
      go_enter Tryz.func79, Tryz.ntmps79
      go_wp2_with (go_at_call 130; (with_reducible refine (HN.out _ _).mono ?_); rintro e w1 ⟨rfl, rfl⟩)
      go_ret
      exact ⟨by rw [HS.out]; rfl, rfl⟩
theorem nan_int (n : Int) (w : World) : Calls Tryz.prog 127 #[.int .i64 n] w fun e w' => e = .returned (.bool false) ∧ w = w' := by
  go_enter Tryz.func127, Tryz.ntmps127
  go_wp2
  go_ret
  exact ⟨by simp, rfl⟩
theorem cmpint_any (x y : Int) (w : World) : Calls Tryz.prog 75 #[.int .i64 x, .int .i64 y] w fun e w' => e = .returned (.int .i64 (Cm.intC x y)) ∧ w = w' := by
  have HN := Lib.hid fun s W => nan_int s W
  rcases Int.lt_trichotomy x y with h | h | h
  · have HS := Lib.hid (show Cm.intC x y = -1 from by unfold Cm.intC; rw [if_pos h])
    go_enter Tryz.func75, Tryz.ntmps75
    go_wp2_with (go_at_call 127; (with_reducible refine (HN.out _ _).mono ?_); rintro e w1 ⟨rfl, rfl⟩)
    go_ret
    exact ⟨by rw [HS.out]; rfl, rfl⟩
  · subst h
    have HS := Lib.hid (show Cm.intC x x = 0 from by unfold Cm.intC; rw [if_neg (by omega), if_neg (by omega)])
    go_enter Tryz.func75, Tryz.ntmps75
    go_wp2_with (go_at_call 127; (with_reducible refine (HN.out _ _).mono ?_); rintro e w1 ⟨rfl, rfl⟩)
    go_ret
    exact ⟨by rw [HS.out]; rfl, rfl⟩
  · have HS := Lib.hid (show Cm.intC x y = 1 from by unfold Cm.intC; rw [if_neg (by omega), if_pos h])
    go_enter Tryz.func75, Tryz.ntmps75
    go_wp2_with (go_at_call 127; (with_reducible refine (HN.out _ _).mono ?_); rintro e w1 ⟨rfl, rfl⟩)
    go_ret
    exact ⟨by rw [HS.out]; rfl, rfl⟩
def orI (x y : Int) : Int := if x ≠ 0 then x else y
theorem or_two (x y : Int) (g : Nat) (w : World) (h0 : w.cell? ⟨g, 0, none⟩ = some (.int .i64 x)) (h1 : w.cell? ⟨g, 1, none⟩ = some (.int .i64 y)) :
    Calls Tryz.prog 77 #[.slice (some ⟨g, 0, none⟩) 2 2] w fun e w' => e = .returned (.int .i64 (orI x y)) ∧ w = w' := by
  by_cases hx : x = 0
  · subst hx
    have HR := Lib.hid (show orI 0 y = y from rfl)
    go_enter Tryz.func77, Tryz.ntmps77
    go_wp2
    go_loop [8] (fun i => ∃ k : Nat, k ≤ 2 ∧ i = .int .i64 (k : Int) ∧ (k = 2 → y = 0)) (fun i => 2 - (intOf i).toNat)
    case atStart => exact ⟨0, by decide, rfl, fun h => absurd h (by decide)⟩
    case round =>
      obtain ⟨k, hk, rfl, hy⟩ := hrel
      rcases (show k = 0 ∨ k = 1 ∨ k = 2 by omega) with rfl | rfl | rfl
      · clear hy
        go_wp2
        go_round
        case rel => exact ⟨1, by decide, rfl, fun h => absurd h (by decide)⟩
        case measure => simp [intOf]
      · clear hy
        by_cases hy0 : y = 0
        · subst hy0
          go_wp2
          go_round
          case rel => exact ⟨2, by decide, rfl, by simp⟩
          case measure => simp [intOf]
        · have hne : ((y : Int) != 0) = true := by rw [bne_iff_ne]; exact hy0
          go_wp2
          go_ret
          exact ⟨by rw [HR.out]; rfl, rfl⟩
      · obtain rfl := hy (by simp)
        go_wp2
        go_ret
        exact ⟨rfl, rfl⟩
  · have HR := Lib.hid (show orI x y = x from if_pos hx)
    have hne : ((x : Int) != 0) = true := by rw [bne_iff_ne]; exact hx
    go_enter Tryz.func77, Tryz.ntmps77
    go_wp2
    go_loop [8] (fun i => i = .int .i64 0) (fun _ => 0)
    case atStart => rfl
    case round =>
      obtain rfl := hrel
      go_wp2
      go_ret
      exact ⟨by rw [HR.out]; rfl, rfl⟩
end Go.Proofs.YtmmlcponmdalmaaGreatDoor

namespace Go.Proofs.YtmmlcponmdalmaaGreatDoor
open Go.RowKit

def rk (k : Int) : Int := if k = 1 then 0 else if k = 2 then 1 else if k = 3 then 2 else if k = 4 then 3 else 4
set_option maxRecDepth 100000 in
theorem rank_any (v : Vl) (w : World) (h0 : 0 ≤ v.k) (h4 : v.k ≤ 4) :
    Calls Tryz.prog 76 #[v.v] w fun e w' => e = .returned (.int .i64 (rk v.k)) ∧ Below w.heap.size w w' := by
  obtain ⟨k, num, den, text, on, code, rows, cols, A, n, c⟩ := v
  dsimp only at h0 h4
  show Calls Tryz.prog 76 #[.agg #[.int .i64 k, .string num, .string den, .string text, .bool on, .int .i64 code, .int .i64 rows, .int .i64 cols, .slice A n c]] w fun e w' => e = .returned (.int .i64 (rk k)) ∧ Below w.heap.size w w'
  rcases (show k = 0 ∨ k = 1 ∨ k = 2 ∨ k = 3 ∨ k = 4 by omega) with rfl | rfl | rfl | rfl | rfl
  all_goals
    go_enter Tryz.func76, Tryz.ntmps76
    go_wp2
    go_ret
    exact ⟨rfl, (Below.refl _ _).alloc (Nat.le_refl _) _⟩
def flg (b : Bool) : Int := if b = true then 1 else 0
theorem flag_any (b : Bool) (w : World) : Calls Tryz.prog 129 #[.bool b] w fun e w' => e = .returned (.int .i64 (flg b)) ∧ w = w' := by
  cases b
  all_goals
    go_enter Tryz.func129, Tryz.ntmps129
    go_wp2
    go_ret
    exact ⟨rfl, rfl⟩
open Classical in
/-- The fraction that two texts stand for. -/
noncomputable def fq (num den : List UInt8) : Int × Nat := if h : ∃ p : Bool × Nat × Nat, Nt.Rd num den p.1 p.2.1 p.2.2 then (Nt.zi h.choose.1 h.choose.2.1, h.choose.2.2) else (0, 1)
theorem fq_rd {num den : List UInt8} {m : Bool} {n d : Nat} (h : Nt.Rd num den m n d) : fq num den = (Nt.zi m n, d) := by
  unfold fq
  have hx : ∃ p : Bool × Nat × Nat, Nt.Rd num den p.1 p.2.1 p.2.2 := ⟨(m, n, d), h⟩
  rw [dif_pos hx]
  obtain ⟨e1, e2, e3⟩ := h.uniq hx.choose_spec
  rw [← e1, ← e2, ← e3]
theorem fq_den (num den : List UInt8) : (fq num den).2 ≠ 0 := by
  by_cases h : ∃ p : Bool × Nat × Nat, Nt.Rd num den p.1 p.2.1 p.2.2
  · obtain ⟨p, hp⟩ := h
    rw [fq_rd hp]
    exact hp.d0
  · unfold fq
    rw [dif_neg h]
    decide
/-- How two values of one kind compare. -/
noncomputable def kCmp (a b : Vl) : Int := if a.k = 1 then Cm.fracC (fq a.num.data.toList a.den.data.toList) (fq b.num.data.toList b.den.data.toList) else if a.k = 2 then Cm.strC (lowL a.text.data.toList) (lowL b.text.data.toList) else if a.k = 3 then flg a.on - flg b.on else Cm.intC a.code b.code
theorem kCmp_1 {a b : Vl} (h : a.k = 1) : kCmp a b = Cm.fracC (fq a.num.data.toList a.den.data.toList) (fq b.num.data.toList b.den.data.toList) := if_pos h
theorem kCmp_2 {a b : Vl} (h : a.k = 2) : kCmp a b = Cm.strC (lowL a.text.data.toList) (lowL b.text.data.toList) := by unfold kCmp; rw [if_neg (by omega), if_pos h]
theorem kCmp_3 {a b : Vl} (h : a.k = 3) : kCmp a b = flg a.on - flg b.on := by unfold kCmp; rw [if_neg (by omega), if_neg (by omega), if_pos h]
theorem kCmp_4 {a b : Vl} (h : a.k = 4) : kCmp a b = Cm.intC a.code b.code := by unfold kCmp; rw [if_neg (by omega), if_neg (by omega), if_neg (by omega)]
structure Vl.sz (v : Vl) : Prop where
  s1 : v.num.size ≤ 9223372036854775807
  s2 : v.den.size ≤ 9223372036854775807
  s3 : v.text.size ≤ 9223372036854775807
theorem compare_fq (a1 a2 b1 b2 : ByteArray) (w : World) (h1 : a1.size ≤ 9223372036854775807) (h2 : a2.size ≤ 9223372036854775807) (h3 : b1.size ≤ 9223372036854775807) (h4 : b2.size ≤ 9223372036854775807)
    (ha : ∃ m n d, Nt.Rd a1.data.toList a2.data.toList m n d) (hb : ∃ m n d, Nt.Rd b1.data.toList b2.data.toList m n d) :
    Calls Tryz.prog 128 #[.agg #[.string a1, .string a2], .agg #[.string b1, .string b2]] w fun e w' => e = .returned (.tuple #[.int .i64 (Cm.fracC (fq a1.data.toList a2.data.toList) (fq b1.data.toList b2.data.toList)), .int .i64 0]) ∧ Below w.heap.size w w' := by
  obtain ⟨m1, n1, d1, r1⟩ := ha
  obtain ⟨m2, n2, d2, r2⟩ := hb
  have L : ∀ {x : Nat}, (Lib.decDigits x).length ≤ 300 → (Nt.digs x).length ≤ 400000 := fun h => Nat.le_trans (Nt.digs_len (lt_pow34 h)) (by decide)
  refine (compare_w a1 a2 b1 b2 m1 n1 d1 m2 n2 d2 w h1 h2 h3 h4 r1 r2 (L r1.ln) (L r1.ld) (L r2.ln) (L r2.ld)).mono fun e w' ⟨r, e1, e2, e3⟩ => ⟨?_, e3⟩
  rw [e1, e2, fq_rd r1, fq_rd r2]
  unfold Cm.fracC
  have z : ∀ (m : Bool) (n d : Nat), Nt.zi m (n * d) = Nt.zi m n * d := fun m n d => by cases m <;> simp [Nt.zi, Int.neg_mul]
  rw [z, z]

set_option maxRecDepth 100000 in
set_option maxHeartbeats 4000000 in
theorem compared_any (a b : Vl) (w : World) (ha : a.ok) (hb : b.ok) (hk : a.k = b.k) (hk0 : a.k ≠ 0) (sa : a.sz) (sb : b.sz) :
    Calls Tryz.prog 78 #[a.v, b.v] w fun e w' => e = .returned (.int .i64 (kCmp a b)) ∧ Below w.heap.size w w' := by
  have HC := Lib.hid (And.intro ha hb)
  have hk1 := ha.1
  have hk4 := ha.2.1
  obtain ⟨sa1, sa2, sa3⟩ := sa
  obtain ⟨sb1, sb2, sb3⟩ := sb
  have H1 := Lib.hid (kCmp_1 (a := a) (b := b))
  have H2 := Lib.hid (kCmp_2 (a := a) (b := b))
  have H3 := Lib.hid (kCmp_3 (a := a) (b := b))
  have H4 := Lib.hid (kCmp_4 (a := a) (b := b))
  clear ha hb
  generalize kCmp a b = R at *
  obtain ⟨k, num1, den1, text1, on1, code1, rows1, cols1, A1, n1, c1⟩ := a
  obtain ⟨kb, num2, den2, text2, on2, code2, rows2, cols2, A2, n2, c2⟩ := b
  dsimp only at hk hk0 hk1 hk4 sa1 sa2 sa3 sb1 sb2 sb3
  subst hk
  have HL0 := Lib.hid (((Loc.start w).alloc' rfl 27 #[.int .i64 k, .string num1, .string den1, .string text1, .bool on1, .int .i64 code1, .int .i64 rows1, .int .i64 cols1, .slice A1 n1 c1]).alloc' (g := w.heap.size + 1) (by simp) 27 #[.int .i64 k, .string num2, .string den2, .string text2, .bool on2, .int .i64 code2, .int .i64 rows2, .int .i64 cols2, .slice A2 n2 c2])
  show Calls Tryz.prog 78 #[(.agg #[.int .i64 k, .string num1, .string den1, .string text1, .bool on1, .int .i64 code1, .int .i64 rows1, .int .i64 cols1, .slice A1 n1 c1]), (.agg #[.int .i64 k, .string num2, .string den2, .string text2, .bool on2, .int .i64 code2, .int .i64 rows2, .int .i64 cols2, .slice A2 n2 c2])] w _
  rcases (show k = 1 ∨ k = 2 ∨ k = 3 ∨ k = 4 by omega) with rfl | rfl | rfl | rfl
  · have HX := Lib.hid fun W => compare_fq num1 den1 num2 den2 W sa1 sa2 sb1 sb2 (HC.out.1.2.2.2.1 rfl) (HC.out.2.2.2.2.1 rfl)
    have HR := Lib.hid (H1.out rfl)
    clear sa1 sa2 sa3 sb1 sb2 sb3 H1 H2 H3 H4 HC
    go_enter Tryz.func78, Tryz.ntmps78
    go_wp2_with (go_at_call 128; (with_reducible refine (HX.out _).mono ?_); rintro e w1 ⟨rfl, hb⟩; have HL1 := Lib.hid (HL0.out.step hb); clear hb)
    go_ret
    exact ⟨by rw [HR.out]; rfl, HL1.out.bel⟩
  · have HW := Lib.hid fun (s : ByteArray) W h => lower_any s W h
    have HCS := Lib.hid fun x y W => cmpstr_any x y W
    have HR := Lib.hid (H2.out rfl)
    clear sa1 sa2 sb1 sb2 H1 H2 H3 H4 HC
    go_enter Tryz.func78, Tryz.ntmps78
    go_upto_region 6 with fail
    have HL := Lib.hid HL0.out.drew
    have b1 := (HL.out.blk (g := w.heap.size) (t := 27) (cs := #[.int .i64 2, .string num1, .string den1, .string text1, .bool on1, .int .i64 code1, .int .i64 rows1, .int .i64 cols1, .slice A1 n1 c1]) (by simp)).cell 3
    have b2 := (HL.out.blk (g := w.heap.size + 1) (t := 27) (cs := #[.int .i64 2, .string num2, .string den2, .string text2, .bool on2, .int .i64 code2, .int .i64 rows2, .int .i64 cols2, .slice A2 n2 c2]) (by simp)).cell 3
    clear HL0
    go_region_held3 (fun w' => w'.cell? ⟨w.heap.size, 3, none⟩ = some (.string text1) ∧ w'.cell? ⟨w.heap.size + 1, 3, none⟩ = some (.string text2)) (first | exact ⟨by assumption, by assumption⟩ | go_keep) ((first
      | (go_at_call 56; first
        | ((with_reducible refine (HW.out text1 _ sa3).mono ?_); rintro e w1 ⟨rfl, hb⟩; have hl := HL.out.step hb; clear HL b1 b2; have HL := Lib.hid hl; clear hl hb; have b1 := (HL.out.blk (g := w.heap.size) (t := 27) (cs := #[.int .i64 2, .string num1, .string den1, .string text1, .bool on1, .int .i64 code1, .int .i64 rows1, .int .i64 cols1, .slice A1 n1 c1]) (by simp)).cell 3; have b2 := (HL.out.blk (g := w.heap.size + 1) (t := 27) (cs := #[.int .i64 2, .string num2, .string den2, .string text2, .bool on2, .int .i64 code2, .int .i64 rows2, .int .i64 cols2, .slice A2 n2 c2]) (by simp)).cell 3)
        | ((with_reducible refine (HW.out text2 _ sb3).mono ?_); rintro e w2 ⟨rfl, hb⟩; have hl := HL.out.step hb; clear HL b1 b2; have HL := Lib.hid hl; clear hl hb; have b1 := (HL.out.blk (g := w.heap.size) (t := 27) (cs := #[.int .i64 2, .string num1, .string den1, .string text1, .bool on1, .int .i64 code1, .int .i64 rows1, .int .i64 cols1, .slice A1 n1 c1]) (by simp)).cell 3; have b2 := (HL.out.blk (g := w.heap.size + 1) (t := 27) (cs := #[.int .i64 2, .string num2, .string den2, .string text2, .bool on2, .int .i64 code2, .int .i64 rows2, .int .i64 cols2, .slice A2 n2 c2]) (by simp)).cell 3))
      | (go_at_call 79; (with_reducible refine (HCS.out _ _ _).mono ?_); rintro e w3 ⟨rfl, rfl⟩)))
    all_goals
      go_wp2_with fail
      go_ret
      exact ⟨by rw [HR.out]; rfl, HL.out.bel⟩
  · have HR := Lib.hid (H3.out rfl)
    clear sa1 sa2 sa3 sb1 sb2 sb3 H1 H2 H3 H4 HC
    have f1 : (0 : Int) ≤ flg on1 := by cases on1 <;> decide
    have f2 : flg on1 ≤ 1 := by cases on1 <;> decide
    have f3 : (0 : Int) ≤ flg on2 := by cases on2 <;> decide
    have f4 : flg on2 ≤ 1 := by cases on2 <;> decide
    go_enter Tryz.func78, Tryz.ntmps78
    go_upto_region 8 with fail
    go_quiet ((go_at_call 129; exact Calls.quiet_of_same ((flag_any _ _).mono fun _ _ ⟨h1, h2⟩ => ⟨h1, h2.symm⟩)))
    go_wp2_with fail
    go_ret
    exact ⟨by rw [HR.out]; rfl, (HL0.out.drewN _).bel⟩
  · have HR := Lib.hid (H4.out rfl)
    clear sa1 sa2 sa3 sb1 sb2 sb3 H1 H2 H3 H4 HC
    go_enter Tryz.func78, Tryz.ntmps78
    go_wp2_with (go_at_call 75; (with_reducible refine (cmpint_any _ _ _).mono ?_); rintro e w1 ⟨rfl, rfl⟩)
    go_ret
    exact ⟨by rw [HR.out]; rfl, HL0.out.bel⟩
end Go.Proofs.YtmmlcponmdalmaaGreatDoor
