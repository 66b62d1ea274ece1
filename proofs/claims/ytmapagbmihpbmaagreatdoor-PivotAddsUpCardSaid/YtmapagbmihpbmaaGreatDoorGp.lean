/- value: the order of valid values, plainly: it is one order, and equal place means equal fields. -/
import Derived.Test.YtmapagbmihpbmaaGreatDoorVbC
import Derived.Test.YtmapagbmihpbmaaGreatDoorGj
import Derived.Test.YtmapagbmihpbmaaGreatDoorGm
import Derived.Test.YtmapagbmihpbmaaGreatDoorGk
set_option linter.unusedSimpArgs false
set_option linter.unusedVariables false
namespace Go.Proofs.YtmapagbmihpbmaaGreatDoor
open Go.RowKit

theorem Cm.glue {α : Type} (r : α → Int) (S : α → α → Int) (h1 : ∀ a b, r a = r b → S a b = - S b a) (h2 : ∀ a b c, r a = r b → r b = r c → S a b ≤ 0 → S b c ≤ 0 → S a c ≤ 0) :
    Cm.IsC (fun a b => if r a ≠ r b then Cm.intC (r a) (r b) else S a b) := by
  refine ⟨fun a b => ?_, fun a b c g1 g2 => ?_⟩
  · by_cases h : r a = r b
    · simp only [h, ne_eq, not_true, if_false]
      exact h1 a b h
    · have h' : ¬ r b = r a := fun e => h e.symm
      simp only [h, h', ne_eq, not_false_eq_true, if_true]
      exact Cm.intC_anti _ _
  · by_cases e1 : r a = r b
    · by_cases e2 : r b = r c
      · have e3 := e1.trans e2
        simp only [e1, e2, ne_eq, not_true, if_false] at g1 g2 ⊢
        exact h2 a b c e1 e2 g1 g2
      · have e3 : ¬ r a = r c := fun e => e2 (e1.symm.trans e)
        simp only [e2, ne_eq, not_false_eq_true, if_true] at g2
        simp only [e3, ne_eq, not_false_eq_true, if_true]
        rw [e1]
        exact g2
    · simp only [e1, ne_eq, not_false_eq_true, if_true] at g1
      by_cases e2 : r b = r c
      · have e3 : ¬ r a = r c := fun e => e1 (e.trans e2.symm)
        simp only [e3, ne_eq, not_false_eq_true, if_true]
        rw [← e2]
        exact g1
      · simp only [e2, ne_eq, not_false_eq_true, if_true] at g2
        have := Cm.intC_trans _ _ _ g1 g2
        by_cases e3 : r a = r c
        · exfalso
          rw [e3] at g1
          have k := Cm.intC_anti (r b) (r c)
          have : Cm.intC (r b) (r c) = 0 := by omega
          unfold Cm.intC at this
          split at this
          · omega
          · split at this
            · omega
            · omega
        · simp only [e3, ne_eq, not_false_eq_true, if_true]
          exact this
/-- The part within one kind. -/
noncomputable def inK (a b : Vl) : Int := if a.k = 0 then 0 else Cm.orC kCmp (fun a b => Cm.strC a.text.data.toList b.text.data.toList) a b
theorem txt_is : Cm.IsC (fun a b : Vl => Cm.strC a.text.data.toList b.text.data.toList) := Cm.strC_is.map (fun v : Vl => v.text.data.toList)
theorem frac_is : Cm.IsC (fun a b : Vl => Cm.fracC (fq a.num.data.toList a.den.data.toList) (fq b.num.data.toList b.den.data.toList)) :=
  ⟨fun _ _ => Cm.fracC_anti _ _, fun _ _ _ => Cm.fracC_trans _ _ _ (fq_den _ _) (fq_den _ _) (fq_den _ _)⟩
/-- Within one kind there is one comparison. -/
theorem kCmp_is (k : Int) : ∃ g : Vl → Vl → Int, Cm.IsC g ∧ ∀ a b : Vl, a.k = k → kCmp a b = g a b := by
  unfold kCmp
  by_cases h1 : k = 1
  · exact ⟨_, frac_is, fun a b h => if_pos (h.trans h1)⟩
  by_cases h2 : k = 2
  · exact ⟨_, Cm.strC_is.map (fun v : Vl => lowL v.text.data.toList), fun a b h => by rw [if_neg (by omega), if_pos (h.trans h2)]⟩
  by_cases h3 : k = 3
  · exact ⟨_, Cm.subC_is.map (fun v : Vl => flg v.on), fun a b h => by rw [if_neg (by omega), if_neg (by omega), if_pos (h.trans h3)]⟩
  · exact ⟨_, Cm.intC_is.map (fun v : Vl => v.code), fun a b h => by rw [if_neg (by omega), if_neg (by omega), if_neg (by omega)]⟩
theorem inK_is (k : Int) : ∃ g : Vl → Vl → Int, Cm.IsC g ∧ ∀ a b : Vl, a.k = k → inK a b = g a b := by
  unfold inK
  by_cases h0 : k = 0
  · exact ⟨fun _ _ => 0, ⟨fun _ _ => by omega, fun _ _ _ _ _ => by omega⟩, fun a b h => if_pos (h.trans h0)⟩
  · obtain ⟨g, hg, he⟩ := kCmp_is k
    refine ⟨_, hg.or txt_is, fun a b h => ?_⟩
    rw [if_neg (by omega)]
    unfold Cm.orC
    rw [he a b h]
theorem rk_inj {a b : Int} (ha : 0 ≤ a ∧ a ≤ 4) (hb : 0 ≤ b ∧ b ≤ 4) (h : rk a = rk b) : a = b := by
  unfold rk at h
  repeat' split at h
  all_goals omega
abbrev VK := { v : Vl // 0 ≤ v.k ∧ v.k ≤ 4 }
theorem ord_is : Cm.IsC (fun a b : VK => if rk a.1.k ≠ rk b.1.k then Cm.intC (rk a.1.k) (rk b.1.k) else inK a.1 b.1) := by
  refine Cm.glue (fun a : VK => rk a.1.k) (fun a b => inK a.1 b.1) (fun a b h => ?_) (fun a b c h h' => ?_)
  · obtain ⟨g, hg, he⟩ := inK_is a.1.k
    rw [he a.1 b.1 rfl, he b.1 a.1 (rk_inj b.2 a.2 h.symm)]
    exact hg.anti _ _
  · obtain ⟨g, hg, he⟩ := inK_is a.1.k
    have e1 := rk_inj a.2 b.2 h
    rw [he a.1 b.1 rfl, he b.1 c.1 e1.symm, he a.1 c.1 rfl]
    exact hg.trans _ _ _
theorem ordV_eq (a b : VK) : ordV a.1 b.1 = if rk a.1.k ≠ rk b.1.k then Cm.intC (rk a.1.k) (rk b.1.k) else inK a.1 b.1 := by
  unfold ordV
  by_cases h : a.1.k = b.1.k
  · rw [if_neg (fun e => e h), if_neg (c := rk a.1.k ≠ rk b.1.k) (fun e => e (by rw [h]))]
    rfl
  · rw [if_pos h, if_pos (fun e => h (rk_inj a.2 b.2 e))]
/-- What the law asks of three answers. -/
theorem ordV_law {a b c : Vl} (ha : a.ok) (hb : b.ok) (hc : c.ok) : ordV a b = - ordV b a ∧ (0 < ordV a b ∨ 0 < ordV b c ∨ ordV a c ≤ 0) ∧ (ordV a b < 0 ∨ ordV b c < 0 ∨ 0 ≤ ordV a c) := by
  have h := Cm.law ord_is ⟨a, ha.1, ha.2.1⟩ ⟨b, hb.1, hb.2.1⟩ ⟨c, hc.1, hc.2.1⟩
  rw [← ordV_eq, ← ordV_eq, ← ordV_eq, ← ordV_eq] at h
  exact h
theorem orI_zero {x y : Int} (h : orI x y = 0) : x = 0 ∧ y = 0 := by
  unfold orI at h
  split at h <;> omega
theorem intC_zero {x y : Int} (h : Cm.intC x y = 0) : x = y := by
  unfold Cm.intC at h
  split at h
  · omega
  · split at h <;> omega
theorem flg_eq {x y : Bool} (h : flg x - flg y = 0) : x = y := by
  cases x <;> cases y <;> simp_all [flg]
theorem zB_parts {v : Vl} (h : v.zB = true) (h5 : v.k ≤ 4) : (v.k = 1 ∨ (v.num = ⟨#[]⟩ ∧ v.den = ⟨#[]⟩)) ∧ (v.k = 2 ∨ v.text = ⟨#[]⟩) ∧ (v.k = 3 ∨ v.on = false) ∧ (v.k = 4 ∨ v.code = 0) ∧ v.rows = 0 ∧ v.cols = 0 ∧ v.n = 0 := by
  unfold Vl.zB at h
  have h6 : ¬ v.k = 5 := by omega
  simp only [Bool.and_eq_true, Bool.or_eq_true, beq_iff_eq, frSame_iff, Bool.not_eq_true', List.isEmpty_iff, h6, false_or] at h
  obtain ⟨⟨⟨⟨h1, h2⟩, h3⟩, h4⟩, h7⟩ := h
  refine ⟨h1, h2.imp id fun e => ba_ext ?_, h3, h4, h7.1.1, h7.1.2, h7.2⟩
  rw [← Lib.toList_data, e]
/-- Equal place: equal fields. -/
theorem ordV_zero {a b : Vl} (ha : a.ok) (hb : b.ok) (h : ordV a b = 0) : a.k = b.k ∧ a.num = b.num ∧ a.den = b.den ∧ a.text = b.text ∧ a.on = b.on ∧ a.code = b.code ∧ a.rows = b.rows ∧ a.cols = b.cols ∧ a.n = 0 ∧ b.n = 0 := by
  have hk : a.k = b.k := by
    by_cases hk : a.k = b.k
    · exact hk
    · unfold ordV at h
      rw [if_pos hk] at h
      exact rk_inj ⟨ha.1, ha.2.1⟩ ⟨hb.1, hb.2.1⟩ (intC_zero h)
  obtain ⟨a1, a2, a3, a4, a5, a6, a7⟩ := zB_parts ha.2.2.1 ha.2.1
  obtain ⟨b1, b2, b3, b4, b5, b6, b7⟩ := zB_parts hb.2.2.1 hb.2.1
  unfold ordV at h
  rw [if_neg (fun e => e hk)] at h
  have hx : a.k = 0 ∨ (kCmp a b = 0 ∧ a.text = b.text) := by
    by_cases h0 : a.k = 0
    · exact .inl h0
    · rw [if_neg h0] at h
      have := orI_zero h
      exact .inr ⟨this.1, ba_ext (Cm.strC_zero this.2)⟩
  have hnd : a.num = b.num ∧ a.den = b.den := by
    rcases a1 with h1 | h1
    · rcases hx with h0 | ⟨h0, _⟩
      · omega
      · rw [kCmp_1 h1] at h0
        obtain ⟨m, n, d, r⟩ := ha.2.2.2.1 h1
        obtain ⟨m', n', d', r'⟩ := hb.2.2.2.1 (by omega)
        rw [fq_rd r, fq_rd r'] at h0
        unfold Cm.fracC at h0
        have e := Int.sign_eq_zero_iff_zero.1 h0
        dsimp only at e
        have := Nt.Q.same (z := Nt.zi m n) (d := d) (z' := Nt.zi m' n') (d' := d') ⟨r.d0, m, n, d, r, rfl⟩ ⟨r'.d0, m', n', d', r', rfl⟩ (by omega)
        exact ⟨ba_ext this.1, ba_ext this.2⟩
    · rcases b1 with h2 | h2
      · rcases hx with h0 | ⟨h0, _⟩
        · omega
        · obtain ⟨m, n, d, r⟩ := ha.2.2.2.1 (by omega)
          obtain ⟨m', n', d', r'⟩ := hb.2.2.2.1 h2
          rw [kCmp_1 (by omega), fq_rd r, fq_rd r'] at h0
          unfold Cm.fracC at h0
          have e := Int.sign_eq_zero_iff_zero.1 h0
          dsimp only at e
          have := Nt.Q.same (z := Nt.zi m n) (d := d) (z' := Nt.zi m' n') (d' := d') ⟨r.d0, m, n, d, r, rfl⟩ ⟨r'.d0, m', n', d', r', rfl⟩ (by omega)
          exact ⟨ba_ext this.1, ba_ext this.2⟩
      · exact ⟨h1.1.trans h2.1.symm, h1.2.trans h2.2.symm⟩
  have ht : a.text = b.text := by
    rcases hx with h0 | ⟨_, h0⟩
    · rcases a2 with h1 | h1
      · omega
      · rcases b2 with h2 | h2
        · omega
        · exact h1.trans h2.symm
    · exact h0
  have hon : a.on = b.on := by
    rcases a3 with h1 | h1
    · rcases hx with h0 | ⟨h0, _⟩
      · omega
      · rw [kCmp_3 h1] at h0
        exact flg_eq h0
    · rcases b3 with h2 | h2
      · rcases hx with h0 | ⟨h0, _⟩
        · omega
        · rw [kCmp_3 (by omega)] at h0
          exact flg_eq h0
      · exact h1.trans h2.symm
  have hcd : a.code = b.code := by
    rcases a4 with h1 | h1
    · rcases hx with h0 | ⟨h0, _⟩
      · omega
      · rw [kCmp_4 h1] at h0
        exact intC_zero h0
    · rcases b4 with h2 | h2
      · rcases hx with h0 | ⟨h0, _⟩
        · omega
        · rw [kCmp_4 (by omega)] at h0
          exact intC_zero h0
      · omega
  exact ⟨hk, hnd.1, hnd.2, ht, hon, hcd, by omega, by omega, a7, b7⟩
end Go.Proofs.YtmapagbmihpbmaaGreatDoor

namespace Go.Proofs.YtmapagbmihpbmaaGreatDoor
open Go.RowKit

theorem tval_ok {t : ByteArray} (h : txtE t = 0) : Vl.ok ⟨2, ⟨#[]⟩, ⟨#[]⟩, t, false, 0, 0, 0, none, 0, 0⟩ :=
  ⟨show (0 : Int) ≤ 2 by decide, show (2 : Int) ≤ 4 by decide, by simp [Vl.zB, Lib.toList_data, frSame], fun h => absurd (show (2 : Int) = 1 from h) (by decide), fun _ => h, fun h => absurd (show (2 : Int) = 4 from h) (by decide)⟩
set_option maxRecDepth 100000 in
set_option maxHeartbeats 1000000 in
theorem text_t (t : ByteArray) (w : World) (he : VEnv w) (h : txtE t = 0) (hz : t.size ≤ 9223372036854775807) :
    Calls Tryz.prog 15 #[.string t] w fun e w' => e = .returned (.agg #[.int .i64 2, .string ⟨#[]⟩, .string ⟨#[]⟩, .string t, .bool false, .int .i64 0, .int .i64 0, .int .i64 0, .slice none 0 0]) ∧ Below w.heap.size w w' := by
  have HV := Lib.hid (show ∀ W, Below w.heap.size w W → Calls Tryz.prog 33 #[.agg #[.int .i64 2, .string ⟨#[]⟩, .string ⟨#[]⟩, .string t, .bool false, .int .i64 0, .int .i64 0, .int .i64 0, .slice none 0 0]] W fun e w' => e = .returned (.agg #[.int .i64 2, .string ⟨#[]⟩, .string ⟨#[]⟩, .string t, .bool false, .int .i64 0, .int .i64 0, .int .i64 0, .slice none 0 0]) ∧ Below W.heap.size W w' from fun W hW => valid_t ⟨2, ⟨#[]⟩, ⟨#[]⟩, t, false, 0, 0, 0, none, 0, 0⟩ W (he.below hW) (tval_ok h) (show (⟨#[]⟩ : ByteArray).size ≤ 9223372036854775807 by decide) (show (⟨#[]⟩ : ByteArray).size ≤ 9223372036854775807 by decide) hz)
  clear he h hz
  have HL0 := Lib.hid ((Loc.start w).alloc' rfl 27 #[.int .i64 0, .string ⟨#[]⟩, .string ⟨#[]⟩, .string ⟨#[]⟩, .bool false, .int .i64 0, .int .i64 0, .int .i64 0, .slice none 0 0])
  go_enter Tryz.func15, Tryz.ntmps15
  go_wp2_with (go_at_call 33; (with_reducible refine (HV.out _ HL0.out.bel).mono ?_); rintro e w1 ⟨rfl, hb⟩; have HL1 := Lib.hid (HL0.out.step hb); have bz := HL1.out.blk (g := w.heap.size) (t := 27) (cs := #[.int .i64 0, .string ⟨#[]⟩, .string ⟨#[]⟩, .string ⟨#[]⟩, .bool false, .int .i64 0, .int .i64 0, .int .i64 0, .slice none 0 0]) (by simp); obtain ⟨z0, z1, z2, z3, z4, z5, z6, z7, z8⟩ := bz.nine; obtain ⟨f0, f1, f2, f3, f4, f5, f6, f7, f8⟩ := bz.ninef; obtain ⟨bs, c0, c1, c2, c3, c4, c5, c6, c7, c8⟩ := bz.nine_set (.int .i64 2) (.string ⟨#[]⟩) (.string ⟨#[]⟩) (.string t) (.bool false) (.int .i64 0) (.int .i64 0) (.int .i64 0) (.slice none 0 0); have BS := Lib.hid bs; clear bz bs hb)
  obtain ⟨q0, q1, q2, q3, q4, q5, q6, q7, q8⟩ := BS.out.nine
  refine bodyPost_ret (v := .agg #[.int .i64 2, .string ⟨#[]⟩, .string ⟨#[]⟩, .string t, .bool false, .int .i64 0, .int .i64 0, .int .i64 0, .slice none 0 0]) (by simp [results, Tryz.results15, go_sem, q0, q1, q2, q3, q4, q5, q6, q7, q8]) rfl ⟨rfl, ?_⟩
  exact below_nine HL1.out.bel (by omega) _ _ _ _ _ _ _ _ _

/-- A whole number's text. -/
def nt (n : Nat) : ByteArray := ⟨(Lib.decDigits n).toArray⟩
def one1 : ByteArray := ⟨#[49]⟩
/-- A whole number as a value. -/
def nV (n : Nat) : Vl := ⟨1, nt n, ⟨#[49]⟩, ⟨#[]⟩, false, 0, 0, 0, none, 0, 0⟩
def tV (t : ByteArray) : Vl := ⟨2, ⟨#[]⟩, ⟨#[]⟩, t, false, 0, 0, 0, none, 0, 0⟩
def zV : Vl := ⟨0, ⟨#[]⟩, ⟨#[]⟩, ⟨#[]⟩, false, 0, 0, 0, none, 0, 0⟩
theorem nt_list (n : Nat) : (nt n).data.toList = Lib.decDigits n := rfl
theorem nt_size (n : Nat) (h : n < 100000000000000000) : (nt n).size ≤ 17 := Nt.dd_le (k := 16) h
theorem pv_rd (N : Nat) (h : N < 100000000000000000) : Nt.Rd (Lib.decDigits N) [49] false N 1 := by
  have hl : (Lib.decDigits N).length ≤ 17 := Nt.dd_le (k := 16) h
  exact ⟨rfl, by rw [Lib.decDigits_one (by decide)]; rfl, by decide, fun _ => rfl, by omega, by rw [Lib.decDigits_one (by decide)]; simp, Nat.gcd_one_right _⟩
theorem pv_qk (N : Nat) (h : N < 100000000000000000) : Nt.Qk (Lib.decDigits N) [49] N 1 40 :=
  Nt.Rd.qk (pv_rd N h) (by have : (Lib.decDigits N).length ≤ 17 := Nt.dd_le (k := 16) h; omega) (by simp)
theorem nt_inj {M N : Nat} (hM : M < 100000000000000000) (hN : N < 100000000000000000) (h : nt M = nt N) : M = N := by
  have e : Lib.decDigits M = Lib.decDigits N := by rw [← nt_list, ← nt_list, h]
  have := Nt.dval_dd M
  rw [e, Nt.dval_dd] at this
  exact this.symm
theorem nV_ok (n : Nat) (h : n < 100000000000000000) : (nV n).ok := nval_ok ⟨_, _, _, pv_rd n h⟩
set_option maxRecDepth 100000 in
/-- Add of whole numbers. -/
theorem add_nat (M N : Nat) (w : World) (hM : M < 10000000000000000) (hN : N < 10000000000000000) (htab : Lib.TabIs Tryz.prog w "internal/strconv.uint64pow10" .u64 Lib.pow10Tab) :
    Calls Tryz.prog 8 #[.agg #[.string (nt M), .string ⟨#[49]⟩], .agg #[.string (nt N), .string ⟨#[49]⟩]] w fun e w' => e = .returned (.tuple #[.agg #[.string (nt (M + N)), .string ⟨#[49]⟩], .int .i64 0]) ∧ Below w.heap.size w w' :=
  (add_q (nt M) ⟨#[49]⟩ (nt N) ⟨#[49]⟩ M N 1 1 40 40 w (pv_qk M (by omega)) (pv_qk N (by omega)) (by decide) htab).mono fun e w' ⟨sn, sd, h1, h2, h3⟩ => by
    have hq := pv_qk (M + N) (by omega)
    obtain ⟨e1, e2⟩ := h2.q.same hq.q (by push_cast; simp)
    obtain rfl : sn = nt (M + N) := ba_ext e1
    obtain rfl : sd = ⟨#[49]⟩ := ba_ext e2
    exact ⟨h1, h3⟩
theorem of_t (n : Nat) (w : World) (hn : n ≤ 1000) (htab : Lib.TabIs Tryz.prog w "internal/strconv.uint64pow10" .u64 Lib.pow10Tab) :
    Calls Tryz.prog 7 #[.int .i64 (n : Int)] w fun e w' => e = .returned (.agg #[.string (nt n), .string ⟨#[49]⟩]) ∧ Below w.heap.size w w' :=
  (of_nat n w hn htab).mono fun e w' ⟨t, h1, h2, h3⟩ => by
    obtain rfl : t = nt n := ba_ext h2
    exact ⟨h1, h3⟩
theorem num_nat (n : Nat) (w : World) (he : VEnv w) (h : n < 100000000000000000) :
    Calls Tryz.prog 44 #[.agg #[.string (nt n), .string ⟨#[49]⟩]] w fun e w' => e = .returned (nV n).v ∧ Below w.heap.size w w' :=
  number_t (nt n) ⟨#[49]⟩ w he ⟨_, _, _, pv_rd n h⟩ (by have := nt_size n h; omega) (by decide)
set_option maxRecDepth 100000 in
set_option maxHeartbeats 1000000 in
theorem whole_t (n : Nat) (w : World) (hn : n ≤ 1000) (htab : Lib.TabIs Tryz.prog w "internal/strconv.uint64pow10" .u64 Lib.pow10Tab) :
    Calls Tryz.prog 16 #[.int .i64 (n : Int)] w fun e w' => e = .returned (nV n).v ∧ Below w.heap.size w w' := by
  have HO := Lib.hid fun W (hW : Below w.heap.size w W) => of_t n W hn (Lib.tabBelow_of_tabIs htab W hW)
  clear htab
  show Calls _ _ _ w fun e w' => e = .returned (.agg #[.int .i64 1, .string (nt n), .string ⟨#[49]⟩, .string ⟨#[]⟩, .bool false, .int .i64 0, .int .i64 0, .int .i64 0, .slice none 0 0]) ∧ _
  obtain ⟨t, ht⟩ : ∃ t, t = nt n := ⟨_, rfl⟩
  rw [← ht] at HO
  rw [← ht]
  clear ht
  have HL0 := Lib.hid ((Loc.start w).alloc' rfl 27 #[.int .i64 0, .string ⟨#[]⟩, .string ⟨#[]⟩, .string ⟨#[]⟩, .bool false, .int .i64 0, .int .i64 0, .int .i64 0, .slice none 0 0])
  go_enter Tryz.func16, Tryz.ntmps16
  go_wp2_with (go_at_call 7; (with_reducible refine (HO.out _ HL0.out.bel).mono ?_); rintro e w1 ⟨rfl, hb⟩; have HL1 := Lib.hid (HL0.out.step hb); have bz := HL1.out.blk (g := w.heap.size) (t := 27) (cs := #[.int .i64 0, .string ⟨#[]⟩, .string ⟨#[]⟩, .string ⟨#[]⟩, .bool false, .int .i64 0, .int .i64 0, .int .i64 0, .slice none 0 0]) (by simp); obtain ⟨z0, z1, z2, z3, z4, z5, z6, z7, z8⟩ := bz.nine; obtain ⟨f0, f1, f2, f3, f4, f5, f6, f7, f8⟩ := bz.ninef; obtain ⟨bs, c0, c1, c2, c3, c4, c5, c6, c7, c8⟩ := bz.nine_set (.int .i64 1) (.string t) (.string ⟨#[49]⟩) (.string ⟨#[]⟩) (.bool false) (.int .i64 0) (.int .i64 0) (.int .i64 0) (.slice none 0 0); have BS := Lib.hid bs; clear bz bs hb)
  obtain ⟨q0, q1, q2, q3, q4, q5, q6, q7, q8⟩ := BS.out.nine
  refine bodyPost_ret (v := .agg #[.int .i64 1, .string t, .string ⟨#[49]⟩, .string ⟨#[]⟩, .bool false, .int .i64 0, .int .i64 0, .int .i64 0, .slice none 0 0]) (by simp [results, Tryz.results16, go_sem, q0, q1, q2, q3, q4, q5, q6, q7, q8]) rfl ⟨rfl, ?_⟩
  exact below_nine HL1.out.bel (by omega) _ _ _ _ _ _ _ _ _
end Go.Proofs.YtmapagbmihpbmaaGreatDoor
