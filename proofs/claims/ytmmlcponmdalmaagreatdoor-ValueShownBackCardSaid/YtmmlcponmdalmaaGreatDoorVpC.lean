/- value: the texts of numbers are read; which text a number has. -/
import Derived.Test.YtmmlcponmdalmaaGreatDoorVpA
import Derived.Test.YtmmlcponmdalmaaGreatDoorVpB
import Derived.Test.YtmmlcponmdalmaaGreatDoorVoA
namespace Go.Proofs.YtmmlcponmdalmaaGreatDoor
open Go.RowKit

/-- A text that Parse reads as the fraction (f1, f2), in the form of decimal texts. -/
structure Numeric (T f1 f2 : ByteArray) : Prop where
  form : ∃ (s : Bool) (a b : List UInt8), T.data.toList = Nt.sgn s ++ (a ++ b) ∧ Nt.allD a ∧ a ≠ [] ∧ Tail b
  size : T.size ≤ 1000
  rd : ∃ m n d, Nt.Rd f1.data.toList f2.data.toList m n d
  parse : ∀ W, VEnv W → Calls Tryz.prog 114 #[.string T] W fun e w' => e = .returned (.tuple #[.agg #[.string f1, .string f2], .int .i64 0]) ∧ Below W.heap.size W w'
theorem rd_size {f1 f2 : ByteArray} (h : ∃ m n d, Nt.Rd f1.data.toList f2.data.toList m n d) : f1.size ≤ 9223372036854775807 ∧ f2.size ≤ 9223372036854775807 := by
  obtain ⟨m, n, d, h⟩ := h
  have e1 : f1.data.toList.length = f1.size := rfl
  have e2 : f2.data.toList.length = f2.size := rfl
  have h1 := h.ln
  have h2 := h.ld
  have h3 : (Nt.sgn m).length ≤ 1 := by cases m <;> simp [Nt.sgn]
  rw [h.num, List.length_append] at e1
  rw [h.den] at e2
  omega
theorem Numeric.head {T f1 f2 : ByteArray} (h : Numeric T f1 f2) : NumHead T := by
  obtain ⟨s, a, b, h1, h2, h3, -⟩ := h.form
  exact NumHead.of h1 h2 h3
theorem Numeric.txt {T f1 f2 : ByteArray} (h : Numeric T f1 f2) : txtE T = 0 := by
  obtain ⟨s, a, b, h1, h2, h3, h4⟩ := h.form
  have := h.size
  exact txtE_ascii T (num_ascii h1 h2 h4) (by omega)
theorem Numeric.number {T f1 f2 : ByteArray} (h : Numeric T f1 f2) (W : World) (he : VEnv W) :
    Calls Tryz.prog 58 #[.string T] W fun e w' => e = .returned (.tuple #[.agg #[.string f1, .string f2], .bool true]) ∧ Below W.heap.size W w' := by
  obtain ⟨s, a, b, h1, h2, h3, h4⟩ := h.form
  have := h.size
  exact number_dec T ⟨a.toArray⟩ ⟨b.toArray⟩ f1 f2 s W h1 h2 h3 h4 (by omega) fun W' hW => h.parse W' (he.below hW)

/-- The shortest text. -/
def Sh (m : Bool) (n d : Nat) (t : ByteArray) : Prop := ∃ q k, t.data.toList = Nt.decT m q k ∧ q * d = n * 10 ^ k ∧ d ∣ 10 ^ k ∧ ∀ j, d ∣ 10 ^ j → k ≤ j
theorem Sh.uniq {m : Bool} {n d : Nat} {t t' : ByteArray} (hd : d ≠ 0) (h : Sh m n d t) (h' : Sh m n d t') : t = t' := by
  obtain ⟨q, k, h1, h2, h3, h4⟩ := h
  obtain ⟨q', k', g1, g2, g3, g4⟩ := h'
  have hk : k = k' := by
    have := h4 _ g3
    have := g4 _ h3
    omega
  subst hk
  have hq : q = q' := Nat.eq_of_mul_eq_mul_right (Nat.pos_of_ne_zero hd) (h2.trans g2.symm)
  subst hq
  exact ba_ext (h1.trans g1.symm)
theorem decT_k (m : Bool) (q k : Nat) (L : Nat) (h : (Nt.decT m q k).length ≤ L) : k ≤ L ∧ q < 10 ^ L := by
  by_cases hk : k = 0
  · subst hk
    obtain ⟨a, h1, h2, -, h4⟩ := decT_int m q
    rw [h1, List.length_append] at h
    refine ⟨by omega, ?_⟩
    rw [← h4]
    exact Nat.lt_of_lt_of_le (Nt.dval_lt h2) (Nat.pow_le_pow_right (by decide) (by omega))
  · obtain ⟨a, p, h1, h2, h3, -, h5, h6⟩ := decT_dot m q k hk
    rw [h1, List.length_append, List.length_append, List.length_cons] at h
    refine ⟨by omega, ?_⟩
    rw [← h6]
    exact Nat.lt_of_lt_of_le (Nt.dval_lt (l := a ++ p) (fun c hc => by
      rcases List.mem_append.1 hc with hc | hc
      · exact h2 c hc
      · exact h3 c hc)) (Nat.pow_le_pow_right (by decide) (by rw [List.length_append]; omega))
theorem Sh.numeric {m : Bool} {n d : Nat} {t a1 a2 : ByteArray} (h : Sh m n d t) (hl : t.size ≤ 40) (hr : Nt.Rd a1.data.toList a2.data.toList m n d) : Numeric t a1 a2 := by
  obtain ⟨q, k, h1, h2, h3, h4⟩ := h
  have e : t.data.toList.length = t.size := rfl
  rw [h1] at e
  obtain ⟨hk, hq⟩ := decT_k m q k 40 (by omega)
  have hd : d ≤ 10 ^ 40 := Nat.le_trans (Nat.le_of_dvd (Nat.pow_pos (by decide)) h3) (Nat.pow_le_pow_right (by decide) hk)
  have hn : n ≤ 10 ^ 40 * 10 ^ 40 := by
    refine Nat.le_trans (Nat.le_mul_of_pos_right n (Nat.pow_pos (n := k) (show 0 < 10 by decide))) ?_
    rw [← h2]
    exact Nat.mul_le_mul (Nat.le_of_lt hq) hd
  have hn' : n < 10 ^ 90 := Nat.lt_of_le_of_lt hn (by decide)
  have hd' : d < 10 ^ 90 := Nat.lt_of_le_of_lt hd (by decide)
  obtain ⟨a, b, s1, s2, s3, s4⟩ := decT_split m q k
  exact ⟨⟨_, a, b, h1.trans s1, s2, s3, s4⟩, by omega, ⟨m, n, d, hr⟩, fun W he => parse_back t a1 a2 m n d q k 90 W h1 hr h2 (by omega) (by decide) hn' hd' he.pw⟩

theorem Fits.reduce {x y c : Nat} (h : Fits (x * c) (y * c)) (hc : c ≠ 0) : Fits x y := by
  obtain ⟨s1, s2, f1, f2⟩ := h
  have hc0 := Nat.pos_of_ne_zero hc
  rw [Nat.gcd_mul_right, Nat.mul_div_mul_right _ _ hc0] at f1 f2
  exact ⟨Nat.le_trans (digs_mono (Nat.le_mul_of_pos_right _ hc0)) s1, Nat.le_trans (digs_mono (Nat.le_mul_of_pos_right _ hc0)) s2, f1, f2⟩
theorem numeric_w {T : ByteArray} {s : Bool} {n d : Nat} (hf : ∃ (s : Bool) (a b : List UInt8), T.data.toList = Nt.sgn s ++ (a ++ b) ∧ Nt.allD a ∧ a ≠ [] ∧ Tail b) (hl : T.size ≤ 1000) (hd : d ≠ 0) (hfit : Fits n d)
    (hp : ∀ W, VEnv W → Calls Tryz.prog 114 #[.string T] W (WriteRet s n d W)) : ∃ f1 f2, Numeric T f1 f2 := by
  obtain ⟨-, m', n', d', hr, -⟩ := Nt.rd_w s n d hd hfit.f1 hfit.f2
  refine ⟨⟨(Nt.numT s n d).toArray⟩, ⟨(Nt.denT n d).toArray⟩, hf, hl, ⟨m', n', d', hr⟩, fun W he => (hp W he).mono ?_⟩
  rintro e w' ⟨hb, sn, sd, rfl, e1, e2⟩
  obtain rfl : sn = ⟨(Nt.numT s n d).toArray⟩ := ba_ext e1
  obtain rfl : sd = ⟨(Nt.denT n d).toArray⟩ := ba_ext e2
  exact ⟨rfl, hb⟩
/-- What is shown of a fixed text is a number's text. -/
theorem trim_numeric (T : ByteArray) (m : Bool) (q k : Nat) (hk : k ≠ 0) (hT : T.data.toList = Lib.trimSuffix (Lib.trimRightB (Nt.decT m q k) 48) [46]) (hl : T.size ≤ 1000) (hfit : Fits q (10 ^ k)) : ∃ f1 f2, Numeric T f1 f2 := by
  obtain ⟨a, b, x, j, i, h1, h2, h3, h4, h5, h6⟩ := trim_dec m q k hk
  rw [h1] at hT
  have hx : Fits x (10 ^ i) := by
    refine Fits.reduce (c := 10 ^ j) ?_ (Nat.ne_of_gt (Nat.pow_pos (by decide)))
    rw [h5, ← Nat.pow_add, h4]
    exact hfit
  rcases h6 with ⟨rfl, rfl, rfl⟩ | ⟨p, rfl, rfl, h7, h8, rfl⟩
  · refine numeric_w (s := (m && decide (q ≠ 0))) (n := Nt.dval a) (d := 1) ⟨_, a, [], hT, h2, h3, .inl rfl⟩ hl (by decide) hx fun W he => ?_
    rw [List.append_nil] at hT
    exact parse_int T ⟨a.toArray⟩ _ W hT h2 h3 hl hx he.pw
  · refine numeric_w (s := (m && decide (q ≠ 0))) (n := Nt.dval (a ++ p)) (d := 10 ^ p.length) ⟨_, a, 46 :: p, hT, h2, h3, .inr ⟨p, rfl, h8⟩⟩ hl (Nat.ne_of_gt (Nat.pow_pos (by decide))) hx fun W he => ?_
    exact parse_frac T ⟨(a ++ 46 :: p).toArray⟩ ⟨a.toArray⟩ ⟨(46 :: p).toArray⟩ ⟨p.toArray⟩ _ W hT rfl rfl h2 h3 h8 h7 hl hx he.pw
end Go.Proofs.YtmmlcponmdalmaaGreatDoor

namespace Go.Proofs.YtmmlcponmdalmaaGreatDoor
open Go.RowKit

theorem lt_300 {n : Nat} (h : (Lib.decDigits n).length ≤ 300) (E : Nat) (hE : E = 300) : n < 10 ^ E :=
  Nat.lt_of_lt_of_le (Nt.dd_lt n) (Nat.pow_le_pow_right (by decide) (by omega))
theorem short_none (a1 a2 : ByteArray) (m : Bool) (n d : Nat) (w : World) (he : VEnv w) (hr : Nt.Rd a1.data.toList a2.data.toList m n d) (h : ∀ t, ¬ Sh m n d t) :
    Calls Tryz.prog 17 #[.agg #[.string a1, .string a2]] w fun e w' => e = .returned (.tuple #[.string ⟨#[]⟩, .bool false, .int .i64 0]) ∧ Below w.heap.size w w' := by
  obtain ⟨E, hE⟩ : ∃ E : Nat, E = 300 := ⟨_, rfl⟩
  obtain ⟨s1, s2⟩ := rd_size ⟨m, n, d, hr⟩
  refine (shortest_w a1 a2 m n d w s1 s2 hr E (by omega) (lt_300 hr.ln E hE) (lt_300 hr.ld E hE) he.pw).mono ?_
  rintro e w' ⟨⟨rfl, -⟩ | ⟨t, q, k, -, h2, h3, -, h5, h6⟩, hb⟩
  · exact ⟨rfl, hb⟩
  · exact absurd ⟨q, k, h2, h3, h5, h6⟩ (h t)
theorem short_some (a1 a2 t : ByteArray) (m : Bool) (n d : Nat) (w : World) (he : VEnv w) (hr : Nt.Rd a1.data.toList a2.data.toList m n d) (h : Sh m n d t) :
    Calls Tryz.prog 17 #[.agg #[.string a1, .string a2]] w fun e w' => e = .returned (.tuple #[.string t, .bool true, .int .i64 0]) ∧ Below w.heap.size w w' := by
  obtain ⟨E, hE⟩ : ∃ E : Nat, E = 300 := ⟨_, rfl⟩
  obtain ⟨s1, s2⟩ := rd_size ⟨m, n, d, hr⟩
  refine (shortest_w a1 a2 m n d w s1 s2 hr E (by omega) (lt_300 hr.ln E hE) (lt_300 hr.ld E hE) he.pw).mono ?_
  rintro e w' ⟨⟨rfl, hn⟩ | ⟨t', q, k, rfl, h2, h3, -, h5, h6⟩, hb⟩
  · obtain ⟨q, k, -, -, h5, -⟩ := h
    exact absurd h5 (hn k)
  · obtain rfl : t' = t := Sh.uniq hr.d0 ⟨q, k, h2, h3, h5, h6⟩ h
    exact ⟨rfl, hb⟩

/-- The number of units of 10^-12. -/
theorem rnd_lt {n d E : Nat} (s1 : n < 10 ^ E) (s2 : d < 10 ^ E) : Nt.rnd (n * 10 ^ 12) d < 10 ^ (E + 13) := by
  unfold Nt.rnd
  refine Nat.lt_of_le_of_lt (Nat.div_le_self _ _) ?_
  rw [Nat.pow_add]
  have h1 : n * 10 ^ 12 ≤ 10 ^ E * 10 ^ 12 := Nat.mul_le_mul_right _ (Nat.le_of_lt s1)
  generalize 10 ^ E = X at *
  omega
/-- Fixed of 12 places: a text whose trimmed form is a number's, or an error. -/
theorem fixed12 (a1 a2 : ByteArray) (m : Bool) (n d : Nat) (hr : Nt.Rd a1.data.toList a2.data.toList m n d) :
    (∃ T : ByteArray, T.size ≤ 900 ∧ (∃ f1 f2, Numeric ⟨(Lib.trimSuffix (Lib.trimRightB T.data.toList 48) [46]).toArray⟩ f1 f2) ∧ ∀ w, VEnv w → Calls Tryz.prog 158 #[.agg #[.string a1, .string a2], .int .i64 12] w fun e w' => e = .returned (.tuple #[.string T, .int .i64 0]) ∧ Below w.heap.size w w') ∨
    (∀ w, VEnv w → Calls Tryz.prog 158 #[.agg #[.string a1, .string a2], .int .i64 12] w fun e w' => e = .returned (.tuple #[.string ⟨#[]⟩, .int .i64 19]) ∧ Below w.heap.size w w') := by
  obtain ⟨z1, z2⟩ := rd_size ⟨m, n, d, hr⟩
  obtain ⟨E, hE⟩ : ∃ E : Nat, E = 300 := ⟨_, rfl⟩
  have s1 := lt_300 hr.ln E hE
  have s2 := lt_300 hr.ld E hE
  have hn1 : (Nt.digs n).length ≤ 40 := digs_pow (lt_B (k := E) (Nat.le_of_lt s1) (by omega))
  have hn2 : (Nt.digs d).length ≤ 40 := digs_pow (lt_B (k := E) (Nat.le_of_lt s2) (by omega))
  have hq := rnd_lt s1 s2
  have hql := Nt.dd_le hq
  have hqd : (Nt.digs (Nt.rnd (n * 10 ^ 12) d)).length ≤ 900000 := Nat.le_trans (digs_pow (j := 40) (lt_B (k := E + 13) (Nat.le_of_lt hq) (by omega))) (by decide)
  have htd : (Nt.digs (10 ^ 12)).length ≤ 900000 := Nat.le_trans (digs_ten (by decide)) (by decide)
  by_cases hf : Nt.rnd (n * 10 ^ 12) d = 0 ∨ (Lib.decDigits (Nt.rnd (n * 10 ^ 12) d / Nat.gcd (Nt.rnd (n * 10 ^ 12) d) (10 ^ 12))).length ≤ 300
  · have hfit : Fits (Nt.rnd (n * 10 ^ 12) d) (10 ^ 12) := by
      refine ⟨hqd, htd, ?_, ?_⟩
      · rcases hf with h | h
        · rw [h, Nat.zero_div]
          decide +kernel
        · exact h
      · have : 10 ^ 12 / Nat.gcd (Nt.rnd (n * 10 ^ 12) d) (10 ^ 12) < 10 ^ 13 := Nat.lt_of_le_of_lt (Nat.div_le_self _ _) (by decide)
        exact Nat.le_trans (Nt.dd_le this) (by decide)
    refine .inl ⟨⟨(Nt.decT m (Nt.rnd (n * 10 ^ 12) d) 12).toArray⟩, ?_, ?_, fun w he => (fixed_w a1 a2 m n d 12 w z1 z2 hr (by decide) (by omega) (by omega) hfit (by omega) he.pw).mono ?_⟩
    · have := Nt.decT_len m (Nt.rnd (n * 10 ^ 12) d) 12
      show (Nt.decT m (Nt.rnd (n * 10 ^ 12) d) 12).length ≤ 900
      omega
    · refine trim_numeric _ m (Nt.rnd (n * 10 ^ 12) d) 12 (by decide) rfl ?_ hfit
      show (Lib.trimSuffix (Lib.trimRightB (Nt.decT m (Nt.rnd (n * 10 ^ 12) d) 12) 48) [46]).length ≤ 1000
      have h0 := Nt.decT_len m (Nt.rnd (n * 10 ^ 12) d) 12
      have h1 : ∀ l : List UInt8, (Lib.trimRightB l 48).length ≤ l.length := fun l => by
        unfold Lib.trimRightB
        rw [List.length_reverse]
        exact Nat.le_trans (List.dropWhile_sublist _).length_le (by rw [List.length_reverse]; exact Nat.le_refl _)
      have h2 : ∀ l : List UInt8, (Lib.trimSuffix l [46]).length ≤ l.length := fun l => by
        unfold Lib.trimSuffix
        split
        · exact (List.take_sublist _ _).length_le
        · exact Nat.le_refl _
      have := h1 (Nt.decT m (Nt.rnd (n * 10 ^ 12) d) 12)
      have := h2 (Lib.trimRightB (Nt.decT m (Nt.rnd (n * 10 ^ 12) d) 12) 48)
      omega
    · rintro e w' ⟨t, rfl, ht, hb⟩
      obtain rfl : t = ⟨(Nt.decT m (Nt.rnd (n * 10 ^ 12) d) 12).toArray⟩ := ba_ext ht
      exact ⟨rfl, hb⟩
  · rw [not_or] at hf
    exact .inr fun w he => fixed_over a1 a2 m n d 12 w z1 z2 hr (by decide) (by omega) (by omega) hf.1 (by omega) hqd htd he.pw

theorem trimR_t (T : ByteArray) (W : World) (h : T.size ≤ 900) : Calls Tryz.prog 160 #[.string T, .string ⟨#[48]⟩] W fun e w' => e = .returned (.string ⟨(Lib.trimRightB T.data.toList 48).toArray⟩) ∧ W = w' :=
  (Tryz.strings_TrimRight_one T 48 (by decide) W (by omega)).mono fun _ _ ⟨h1, h2⟩ => ⟨h1, h2.symm⟩
theorem trimS_t (l : List UInt8) (W : World) (h : l.length ≤ 900) : Calls Tryz.prog 159 #[.string ⟨l.toArray⟩, .string ⟨#[46]⟩] W fun e w' => e = .returned (.string ⟨(Lib.trimSuffix l [46]).toArray⟩) ∧ W = w' :=
  (Tryz.strings_TrimSuffix ⟨l.toArray⟩ ⟨#[46]⟩ W (by show l.length ≤ _; omega)).mono fun _ _ ⟨h1, h2⟩ => ⟨h1, h2.symm⟩

/-- What decimal answers: the shortest text, if it is short; else a number's text, or the text of the error. -/
def DecT (m : Bool) (n d : Nat) (T : ByteArray) : Prop := (Sh m n d T ∧ T.size ≤ 40) ∨ ((∀ t, Sh m n d t → 40 < t.size) ∧ (T = faultS 5 ∨ ∃ f1 f2, Numeric T f1 f2))

set_option maxHeartbeats 1000000 in
theorem decimal_s (a1 a2 t : ByteArray) (m : Bool) (n d : Nat) (w : World) (he : VEnv w) (hr : Nt.Rd a1.data.toList a2.data.toList m n d) (h : Sh m n d t) (hl : t.size ≤ 40) :
    Calls Tryz.prog 103 #[.agg #[.string a1, .string a2]] w fun e w' => e = .returned (.string t) ∧ Below w.heap.size w w' := by
  have HS := Lib.hid fun W (hW : Below w.heap.size w W) => short_some a1 a2 t m n d W (he.below hW) hr h
  clear he hr h
  have HL0 := Lib.hid ((Loc.start w).alloc' rfl 24 #[.string a1, .string a2])
  have hl' : (t.size : Int) ≤ 40 := by omega
  clear hl
  go_enter Tryz.func103, Tryz.ntmps103
  go_wp2_with (go_at_call 17; (with_reducible refine (HS.out _ HL0.out.bel).mono ?_); rintro e w1 ⟨rfl, hb⟩; have HL1 := Lib.hid (HL0.out.step hb); clear hb)
  go_ret
  exact ⟨rfl, HL1.out.bel⟩
set_option maxHeartbeats 1000000 in
theorem decimal_l (a1 a2 t T R : ByteArray) (ok : Bool) (e : Int) (hR : (e = 0 → R = ⟨(Lib.trimSuffix (Lib.trimRightB T.data.toList 48) [46]).toArray⟩) ∧ (e = 19 → R = faultS 5)) (w : World) (he : VEnv w) (hz : T.size ≤ 900) (hbad : ok = false ∨ ok = true ∧ 40 < t.size) (hfe : e = 0 ∨ e = 19)
    (hs : ∀ W, VEnv W → Calls Tryz.prog 17 #[.agg #[.string a1, .string a2]] W fun e w' => e = .returned (.tuple #[.string t, .bool ok, .int .i64 0]) ∧ Below W.heap.size W w')
    (hf : ∀ W, VEnv W → Calls Tryz.prog 158 #[.agg #[.string a1, .string a2], .int .i64 12] W fun e' w' => e' = .returned (.tuple #[.string T, .int .i64 e]) ∧ Below W.heap.size W w') :
    Calls Tryz.prog 103 #[.agg #[.string a1, .string a2]] w fun e' w' => e' = .returned (.string R) ∧ Below w.heap.size w w' := by
  have HS := Lib.hid fun W (hW : Below w.heap.size w W) => hs W (he.below hW)
  have HF := Lib.hid fun W (hW : Below w.heap.size w W) => hf W (he.below hW)
  have HFT := Lib.hid (show ∀ W, Below w.heap.size w W → Calls Tryz.prog 43 #[.int .i64 5] W fun e w' => e = .returned (.string (faultS 5)) ∧ W = w' from fun W (hW : Below w.heap.size w W) => ftext_in 5 W (he.below hW) (by decide) (by decide))
  have HTR := Lib.hid fun W => trimR_t T W hz
  have hlen : (Lib.trimRightB T.data.toList 48).length ≤ 900 := by
    unfold Lib.trimRightB
    rw [List.length_reverse]
    refine Nat.le_trans (List.dropWhile_sublist _).length_le ?_
    rw [List.length_reverse]
    exact hz
  have HTS := Lib.hid fun W => trimS_t (Lib.trimRightB T.data.toList 48) W hlen
  clear he hs hf hlen hz
  have HL0 := Lib.hid ((Loc.start w).alloc' rfl 24 #[.string a1, .string a2])
  have hbad' : ok = false ∨ ok = true ∧ ¬ (t.size : Int) ≤ 40 := by
    rcases hbad with h | ⟨h1, h2⟩
    · exact .inl h
    · exact .inr ⟨h1, by omega⟩
  clear hbad
  rcases hbad' with rfl | ⟨rfl, hgt⟩ <;> rcases hfe with rfl | rfl
  all_goals
    first
      | (obtain rfl := hR.1 rfl)
      | (obtain rfl := hR.2 rfl)
    clear hR
    go_enter Tryz.func103, Tryz.ntmps103
    go_wp2_with (first
      | (go_at_call 17; (with_reducible refine (HS.out _ HL0.out.bel).mono ?_); rintro e w1 ⟨rfl, hb⟩; have HL1 := Lib.hid (HL0.out.step hb); obtain ⟨x0, x1, y0, y1⟩ := (HL1.out.blk (g := w.heap.size) (t := 24) (cs := #[.string a1, .string a2]) (by simp)).two; clear hb)
      | (go_at_call 158; (with_reducible refine (HF.out _ HL1.out.bel).mono ?_); rintro e w2 ⟨rfl, hb⟩; have HL2 := Lib.hid (HL1.out.step hb); clear hb)
      | (go_at_call 43; (with_reducible refine (HFT.out _ HL2.out.bel).mono ?_); rintro e w3 ⟨rfl, rfl⟩)
      | (go_at_call 160; (with_reducible refine (HTR.out _).mono ?_); rintro e w3 ⟨rfl, rfl⟩)
      | (go_at_call 159; (with_reducible refine (HTS.out _).mono ?_); rintro e w3 ⟨rfl, rfl⟩))
    go_ret
    exact ⟨rfl, HL2.out.bel⟩
theorem vdecimal_any (a1 a2 : ByteArray) (m : Bool) (n d : Nat) (hr : Nt.Rd a1.data.toList a2.data.toList m n d) :
    ∃ T, DecT m n d T ∧ ∀ w, VEnv w → Calls Tryz.prog 103 #[.agg #[.string a1, .string a2]] w fun e w' => e = .returned (.string T) ∧ Below w.heap.size w w' := by
  by_cases h : ∃ t, Sh m n d t ∧ t.size ≤ 40
  · obtain ⟨t, h1, h2⟩ := h
    exact ⟨t, .inl ⟨h1, h2⟩, fun w he => decimal_s a1 a2 t m n d w he hr h1 h2⟩
  · have hbig : ∀ t, Sh m n d t → 40 < t.size := fun t ht => Nat.lt_of_not_le fun hle => h ⟨t, ht, hle⟩
    obtain ⟨t, ok, hs, hbad⟩ : ∃ t ok, (∀ W, VEnv W → Calls Tryz.prog 17 #[.agg #[.string a1, .string a2]] W fun e w' => e = .returned (.tuple #[.string t, .bool ok, .int .i64 0]) ∧ Below W.heap.size W w') ∧ (ok = false ∨ ok = true ∧ 40 < t.size) := by
      by_cases hx : ∃ t, Sh m n d t
      · obtain ⟨t, ht⟩ := hx
        exact ⟨t, true, fun W he => short_some a1 a2 t m n d W he hr ht, .inr ⟨rfl, hbig t ht⟩⟩
      · exact ⟨⟨#[]⟩, false, fun W he => short_none a1 a2 m n d W he hr fun t ht => hx ⟨t, ht⟩, .inl rfl⟩
    rcases fixed12 a1 a2 m n d hr with ⟨T, hz, hn, hf⟩ | hf
    · exact ⟨_, .inr ⟨hbig, .inr hn⟩, fun w he => decimal_l a1 a2 t T _ ok 0 ⟨fun _ => rfl, (fun h => absurd h (by decide))⟩ w he hz hbad (.inl rfl) hs hf⟩
    · exact ⟨faultS 5, .inr ⟨hbig, .inl rfl⟩, fun w he => decimal_l a1 a2 t ⟨#[]⟩ _ ok 19 ⟨(fun h => absurd h (by decide)), fun _ => rfl⟩ w he (by decide) hbad (.inr rfl) hs hf⟩
end Go.Proofs.YtmmlcponmdalmaaGreatDoor

namespace Go.Proofs.YtmmlcponmdalmaaGreatDoor
open Go.RowKit

set_option maxRecDepth 100000 in
set_option maxHeartbeats 2000000 in
theorem shown_e (num den text : ByteArray) (on : Bool) (code rows cols : Int) (A : Option Addr) (n c : Nat)  (w : World) (_he : VEnv w) :
    Calls Tryz.prog 45 #[.agg #[.int .i64 0, .string num, .string den, .string text, .bool on, .int .i64 code, .int .i64 rows, .int .i64 cols, .slice A n c]] w fun e w' => e = .returned (.string ⟨#[]⟩) ∧ Below w.heap.size w w' := by
  clear _he
  have HL0 := Lib.hid ((Loc.start w).alloc' rfl 27 #[.int .i64 0, .string num, .string den, .string text, .bool on, .int .i64 code, .int .i64 rows, .int .i64 cols, .slice A n c])
  go_enter Tryz.func45, Tryz.ntmps45
  go_wp2_with (fail)
  go_ret
  exact ⟨rfl, HL0.out.bel⟩
set_option maxRecDepth 100000 in
set_option maxHeartbeats 2000000 in
theorem shown_n (num den text : ByteArray) (on : Bool) (code rows cols : Int) (A : Option Addr) (n c : Nat) (T : ByteArray) (hd : ∀ W, VEnv W → Calls Tryz.prog 103 #[.agg #[.string num, .string den]] W fun e w' => e = .returned (.string T) ∧ Below W.heap.size W w') (w : World) (he : VEnv w) :
    Calls Tryz.prog 45 #[.agg #[.int .i64 1, .string num, .string den, .string text, .bool on, .int .i64 code, .int .i64 rows, .int .i64 cols, .slice A n c]] w fun e w' => e = .returned (.string T) ∧ Below w.heap.size w w' := by
  have HD := Lib.hid fun W (hW : Below w.heap.size w W) => hd W (he.below hW)
  clear hd
  clear he
  have HL0 := Lib.hid ((Loc.start w).alloc' rfl 27 #[.int .i64 1, .string num, .string den, .string text, .bool on, .int .i64 code, .int .i64 rows, .int .i64 cols, .slice A n c])
  go_enter Tryz.func45, Tryz.ntmps45
  go_wp2_with (go_at_call 103; (with_reducible refine (HD.out _ HL0.out.bel).mono ?_); rintro e w1 ⟨rfl, hb⟩; have HL1 := Lib.hid (HL0.out.step hb); clear hb)
  go_ret
  exact ⟨rfl, HL1.out.bel⟩
set_option maxRecDepth 100000 in
set_option maxHeartbeats 2000000 in
theorem shown_t (num den text : ByteArray) (on : Bool) (code rows cols : Int) (A : Option Addr) (n c : Nat)  (w : World) (_he : VEnv w) :
    Calls Tryz.prog 45 #[.agg #[.int .i64 2, .string num, .string den, .string text, .bool on, .int .i64 code, .int .i64 rows, .int .i64 cols, .slice A n c]] w fun e w' => e = .returned (.string text) ∧ Below w.heap.size w w' := by
  clear _he
  have HL0 := Lib.hid ((Loc.start w).alloc' rfl 27 #[.int .i64 2, .string num, .string den, .string text, .bool on, .int .i64 code, .int .i64 rows, .int .i64 cols, .slice A n c])
  go_enter Tryz.func45, Tryz.ntmps45
  go_wp2_with (fail)
  go_ret
  exact ⟨rfl, HL0.out.bel⟩
set_option maxRecDepth 100000 in
set_option maxHeartbeats 2000000 in
theorem shown_b (num den text : ByteArray) (on : Bool) (code rows cols : Int) (A : Option Addr) (n c : Nat)  (w : World) (_he : VEnv w) :
    Calls Tryz.prog 45 #[.agg #[.int .i64 3, .string num, .string den, .string text, .bool on, .int .i64 code, .int .i64 rows, .int .i64 cols, .slice A n c]] w fun e w' => e = .returned (.string (if on = true then ⟨#[84, 82, 85, 69]⟩ else ⟨#[70, 65, 76, 83, 69]⟩)) ∧ Below w.heap.size w w' := by
  clear _he
  have HL0 := Lib.hid ((Loc.start w).alloc' rfl 27 #[.int .i64 3, .string num, .string den, .string text, .bool on, .int .i64 code, .int .i64 rows, .int .i64 cols, .slice A n c])
  cases on
  all_goals
    go_enter Tryz.func45, Tryz.ntmps45
    go_wp2_with (fail)
    go_ret
    exact ⟨rfl, HL0.out.bel⟩
set_option maxRecDepth 100000 in
set_option maxHeartbeats 2000000 in
theorem shown_f (j : Nat) (num den text : ByteArray) (on : Bool) (rows cols : Int) (A : Option Addr) (n c : Nat) (h1 : 1 ≤ j) (h8 : j ≤ 8) (w : World) (he : VEnv w) :
    Calls Tryz.prog 45 #[.agg #[.int .i64 4, .string num, .string den, .string text, .bool on, .int .i64 (j : Int), .int .i64 rows, .int .i64 cols, .slice A n c]] w fun e w' => e = .returned (.string (faultS j)) ∧ Below w.heap.size w w' := by
  have HF := Lib.hid fun W (hW : Below w.heap.size w W) => ftext_in j W (he.below hW) h1 h8
  clear h1 h8
  clear he
  have HL0 := Lib.hid ((Loc.start w).alloc' rfl 27 #[.int .i64 4, .string num, .string den, .string text, .bool on, .int .i64 (j : Int), .int .i64 rows, .int .i64 cols, .slice A n c])
  go_enter Tryz.func45, Tryz.ntmps45
  go_wp2_with (go_at_call 43; (with_reducible refine (HF.out _ HL0.out.bel).mono ?_); rintro e w1 ⟨rfl, rfl⟩)
  go_ret
  exact ⟨rfl, HL0.out.bel⟩
set_option maxRecDepth 100000 in
set_option maxHeartbeats 2000000 in
theorem show_v (v : Vl) (S : ByteArray) (w : World) (he : VEnv w) (hv : v.ok) (sz : v.sz)
    (hs : ∀ W, VEnv W → Calls Tryz.prog 45 #[v.v] W fun e w' => e = .returned (.string S) ∧ Below W.heap.size W w') :
    Calls Tryz.prog 16 #[v.v] w fun e w' => e = .returned (.tuple #[.string S, .int .i64 0]) ∧ Below w.heap.size w w' := by
  have HC := Lib.hid fun W (hW : Below w.heap.size w W) => check_t' v W (he.below hW) hv sz.s1 sz.s2 sz.s3
  have HS := Lib.hid fun W (hW : Below w.heap.size w W) => hs W (he.below hW)
  clear he hv sz hs
  obtain ⟨k, num, den, text, on, code, rows, cols, A, n, c⟩ := v
  have HC := Lib.hid (show ∀ W, Below w.heap.size w W → Calls Tryz.prog 15 #[.agg #[.int .i64 k, .string num, .string den, .string text, .bool on, .int .i64 code, .int .i64 rows, .int .i64 cols, .slice A n c]] W fun e w' => e = .returned (.int .i64 0) ∧ Below W.heap.size W w' from HC.out)
  have HS := Lib.hid (show ∀ W, Below w.heap.size w W → Calls Tryz.prog 45 #[.agg #[.int .i64 k, .string num, .string den, .string text, .bool on, .int .i64 code, .int .i64 rows, .int .i64 cols, .slice A n c]] W fun e w' => e = .returned (.string S) ∧ Below W.heap.size W w' from HS.out)
  show Calls Tryz.prog 16 #[.agg #[.int .i64 k, .string num, .string den, .string text, .bool on, .int .i64 code, .int .i64 rows, .int .i64 cols, .slice A n c]] w _
  have HL0 := Lib.hid ((Loc.start w).alloc' rfl 27 #[.int .i64 k, .string num, .string den, .string text, .bool on, .int .i64 code, .int .i64 rows, .int .i64 cols, .slice A n c])
  go_enter Tryz.func16, Tryz.ntmps16
  go_wp2_with (first
    | (go_at_call 15; (with_reducible refine (HC.out _ HL0.out.bel).mono ?_); rintro e w1 ⟨rfl, hb⟩; have HL1 := Lib.hid (HL0.out.step hb); obtain ⟨x0, x1, x2, x3, x4, x5, x6, x7, x8⟩ := (HL1.out.blk (g := w.heap.size) (t := 27) (cs := #[.int .i64 k, .string num, .string den, .string text, .bool on, .int .i64 code, .int .i64 rows, .int .i64 cols, .slice A n c]) (by simp)).nine; clear hb)
    | (go_at_call 45; (with_reducible refine (HS.out _ HL1.out.bel).mono ?_); rintro e w2 ⟨rfl, hb⟩; have HL2 := Lib.hid (HL1.out.step hb); clear hb))
  go_ret2
  exact ⟨rfl, HL2.out.bel⟩
end Go.Proofs.YtmmlcponmdalmaaGreatDoor
