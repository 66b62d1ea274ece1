/- A decimal text is read back; what stands behind its point. -/
import Derived.Test.YtliljihkoojggaaGreatDoorExA
namespace Go.Proofs.YtliljihkoojggaaGreatDoor
open Go.RowKit
namespace Nt
theorem allD_pad (p : Nat) {l : List UInt8} (h : allD l) : allD (pad p l) := fun c hc => by
  rcases List.mem_append.1 hc with hc | hc
  · rw [(List.mem_replicate.1 hc).2]; exact ⟨by decide, by decide⟩
  · exact h c hc
theorem dval_zeros (k : Nat) (l : List UInt8) : dval (List.replicate k 48 ++ l) = dval l := by
  induction k with
  | zero => rfl
  | succ k ih => rw [List.replicate_succ, List.cons_append, dval_cons, ih]; simp
theorem dval_pad (p q : Nat) : dval (pad p (Lib.decDigits q)) = q := by rw [pad, dval_zeros, dval_dd]
theorem pad_len_le (p : Nat) (l : List UInt8) : (pad p l).length ≤ p + 1 + l.length := by
  unfold pad
  rw [List.length_append, List.length_replicate]
  omega
theorem decT_len (m : Bool) (q p : Nat) : (decT m q p).length ≤ 3 + p + (Lib.decDigits q).length := by
  have h := pad_len_le p (Lib.decDigits q)
  unfold decT dotted
  rw [List.length_append]
  have hs : (sgn (m && decide (q ≠ 0))).length ≤ 1 := by unfold sgn; split <;> simp
  split
  · omega
  · rw [List.length_append, List.length_cons, List.length_take, List.length_drop]
    omega
theorem sgn_noDot (b : Bool) : ∀ c ∈ sgn b, c ≠ 46 := by
  unfold sgn
  split
  · intro c hc; rw [List.mem_singleton.1 hc]; decide
  · intro c hc; cases hc
theorem noDot {l : List UInt8} (h : allD l) : ∀ c ∈ l, c ≠ 46 := fun c hc e => by
  have := h c hc
  subst e
  exact absurd this.1 (by decide)
end Nt
theorem index_none {l : List UInt8} (h : ∀ c ∈ l, c ≠ 46) : Lib.index l [46] = -1 := by
  induction l with
  | nil => rfl
  | cons b t ih =>
    have hb : ([46] : List UInt8).isPrefixOf (b :: t) = false := by
      simp [List.isPrefixOf]
      exact fun e => h b (by simp) e.symm
    have := ih fun c hc => h c (by simp [hc])
    simp [Lib.index, hb, this]
theorem index_dot {l t : List UInt8} (h : ∀ c ∈ l, c ≠ 46) : Lib.index (l ++ 46 :: t) [46] = l.length := by
  induction l with
  | nil => simp [Lib.index, List.isPrefixOf]
  | cons b u ih =>
    have hb : ([46] : List UInt8).isPrefixOf (b :: (u ++ 46 :: t)) = false := by
      simp [List.isPrefixOf]
      exact fun e => h b (by simp) e.symm
    have := ih fun c hc => h c (by simp [hc])
    rw [List.cons_append]
    simp only [Lib.index, hb, this, List.length_cons]
    simp
theorem cut_at' {l t : List UInt8} (h : ∀ c ∈ l, c ≠ 46) : (Lib.cut (l ++ 46 :: t) [46]).2.1 = t := by
  unfold Lib.cut
  rw [index_dot h, if_pos (by omega)]
  simp
theorem cut_dot (m : Bool) (q p : Nat) : (Lib.cut (Nt.decT m q p) [46]).2.1.length = p := by
  have ha := Nt.allD_pad p (Nt.allD_dd q)
  have hl := Nt.pad_len p (Lib.decDigits q)
  unfold Nt.decT Nt.dotted
  by_cases h0 : p = 0
  · subst h0
    rw [if_pos rfl]
    have hi := index_none (l := Nt.sgn (m && decide (q ≠ 0)) ++ Nt.pad 0 (Lib.decDigits q)) (fun c hc => by
      rcases List.mem_append.1 hc with hc | hc
      · exact Nt.sgn_noDot _ c hc
      · exact Nt.noDot ha c hc)
    unfold Lib.cut
    rw [hi]
    simp
  · rw [if_neg h0, ← List.append_assoc]
    rw [cut_at' (fun c hc => by
      rcases List.mem_append.1 hc with hc | hc
      · exact Nt.sgn_noDot _ c hc
      · exact Nt.noDot ha c (List.mem_of_mem_take hc)), List.length_drop]
    omega
theorem parse_back (t a1 a2 : ByteArray) (m : Bool) (n d q p E : Nat) (w : World) (ht : t.data.toList = Nt.decT m q p) (hr : Nt.Rd a1.data.toList a2.data.toList m n d) (h : q * d = n * 10 ^ p)
    (hp : p ≤ 200) (hE : E ≤ 90) (hn : n < 10 ^ E) (hd : d < 10 ^ E) (htab : Lib.TabIs Tryz.prog w "internal/strconv.uint64pow10" .u64 Lib.pow10Tab) :
    Calls Tryz.prog 21 #[.string t] w fun e w' => e = .returned (.tuple #[.agg #[.string a1, .string a2], .int .i64 0]) ∧ Below w.heap.size w w' := by
  have hp0 : 10 ^ p ≠ 0 := Nat.ne_of_gt (Nat.pow_pos (by decide))
  have hqle : q ≤ n * 10 ^ p := by
    rw [← h]
    exact Nat.le_mul_of_pos_right _ (Nat.pos_of_ne_zero hr.d0)
  have hq10 : q ≤ 10 ^ (E + p) := by
    refine Nat.le_trans hqle ?_
    rw [Nat.pow_add]
    exact Nat.mul_le_mul_right _ (Nat.le_of_lt hn)
  have hql : (Lib.decDigits q).length ≤ E + p + 1 := by
    have h1 : q < 10 ^ (E + p + 1) := Nat.lt_of_le_of_lt hq10 (Nat.pow_lt_pow_right (by decide) (by omega))
    exact Nt.dd_le h1
  have hts : t.size ≤ 1000 := by
    have h1 := Nt.decT_len m q p
    rw [← ht] at h1
    rw [← ba_len]
    omega
  obtain ⟨s, hs⟩ : ∃ s, s = (m && decide (q ≠ 0)) := ⟨_, rfl⟩
  have hzi : Nt.zi s q * d = Nt.zi m n * (10 ^ p : Nat) := by
    have h' : (q : Int) * d = (n : Int) * (10 ^ p : Nat) := by exact_mod_cast h
    by_cases hq0 : q = 0
    · subst hq0
      have hn0 : n = 0 := by
        rw [Nat.zero_mul] at h
        rcases Nat.mul_eq_zero.1 h.symm with h | h
        · exact h
        · exact absurd h hp0
      subst hn0
      rw [Nt.zi_zero, Nt.zi_zero]
      simp
    · have hs2 : s = m := by rw [hs]; simp [hq0]
      rw [hs2]
      cases m with
      | false => exact h'
      | true => simp only [Nt.zi, if_true]; rw [Int.neg_mul, Int.neg_mul, h']
  have hzk : (Nt.zi m n).natAbs ≤ 10 ^ E := by rw [Nt.zi_abs]; exact Nat.le_of_lt hn
  have hfit : Fits q (10 ^ p) := fits_of (m := s) (d := d) (z := Nt.zi m n) hp0 hr.d0 hzi hzk (Nat.le_of_lt hd) (by omega) (i := 60) (by omega) (lt_B hq10 (by omega)) (lt_B (k := p) (Nat.le_refl _) (by omega))
  have hback : ∀ e w', WriteRet s q (10 ^ p) w e w' → e = .returned (.tuple #[.agg #[.string a1, .string a2], .int .i64 0]) ∧ Below w.heap.size w w' := by
    rintro e w' ⟨hb, sn, sd, rfl, e1, e2⟩
    have hk := Nt.w_qk (m := s) (n := q) (p := 10 ^ p) (d := d) (z := Nt.zi m n) (k := E) hp0 hr.d0 hzi hzk (Nat.le_of_lt hd) (by omega)
    rw [← e1, ← e2] at hk
    have ha : Nt.Q a1.data.toList a2.data.toList (Nt.zi m n) d := ⟨hr.d0, m, n, d, hr, rfl⟩
    obtain ⟨i1, i2⟩ := hk.q.same ha rfl
    obtain rfl : sn = a1 := ba_ext i1
    obtain rfl : sd = a2 := ba_ext i2
    exact ⟨rfl, hb⟩
  have hda := Nt.allD_pad p (Nt.allD_dd q)
  have hpl := Nt.pad_len p (Lib.decDigits q)
  by_cases h0 : p = 0
  · subst h0
    have hv := Nt.dval_pad 0 q
    have ht2 : t.data.toList = Nt.sgn s ++ Nt.pad 0 (Lib.decDigits q) := by rw [ht, hs]; rfl
    have hpi := parse_int t ⟨(Nt.pad 0 (Lib.decDigits q)).toArray⟩ s w ht2 hda (fun e => by
      have e' : Nt.pad 0 (Lib.decDigits q) = [] := e
      rw [e'] at hpl; simp at hpl) hts (by rw [show (⟨(Nt.pad 0 (Lib.decDigits q)).toArray⟩ : ByteArray).data.toList = Nt.pad 0 (Lib.decDigits q) from rfl, hv]; exact hfit) htab
    rw [show (⟨(Nt.pad 0 (Lib.decDigits q)).toArray⟩ : ByteArray).data.toList = Nt.pad 0 (Lib.decDigits q) from rfl, hv] at hpi
    exact hpi.mono hback
  · obtain ⟨P, hP⟩ : ∃ P, P = Nt.pad p (Lib.decDigits q) := ⟨_, rfl⟩
    have hv : Nt.dval (P.take (P.length - p) ++ P.drop (P.length - p)) = q := by rw [List.take_append_drop, hP]; exact Nt.dval_pad p q
    rw [← hP] at hda hpl
    have ht2 : t.data.toList = Nt.sgn s ++ (P.take (P.length - p) ++ 46 :: P.drop (P.length - p)) := by rw [ht, hs, hP, Nt.decT, Nt.dotted, if_neg h0]
    have hsz : (⟨(P.drop (P.length - p)).toArray⟩ : ByteArray).size = p := by
      rw [← ba_len]
      show (P.drop (P.length - p)).length = p
      rw [List.length_drop]; omega
    have hpf := parse_frac t ⟨(P.take (P.length - p) ++ 46 :: P.drop (P.length - p)).toArray⟩ ⟨(P.take (P.length - p)).toArray⟩ ⟨(46 :: P.drop (P.length - p)).toArray⟩ ⟨(P.drop (P.length - p)).toArray⟩ s w ht2 rfl rfl
      (fun c hc => hda c (List.mem_of_mem_take hc)) (fun e => by
        have e' : P.take (P.length - p) = [] := e
        have := congrArg List.length e'
        rw [List.length_take] at this
        simp at this; omega) (fun c hc => hda c (List.mem_of_mem_drop hc)) (fun e => by
        have e' : P.drop (P.length - p) = [] := e
        have := congrArg List.length e'
        rw [List.length_drop] at this
        simp at this; omega) hts (by
        rw [hsz]
        show Fits (Nt.dval (P.take (P.length - p) ++ P.drop (P.length - p))) _
        rw [hv]; exact hfit) htab
    rw [hsz] at hpf
    have hpf2 : Calls Tryz.prog 21 #[.string t] w (WriteRet s (Nt.dval (P.take (P.length - p) ++ P.drop (P.length - p))) (10 ^ p) w) := hpf
    rw [hv] at hpf2
    exact hpf2.mono hback
end Go.Proofs.YtliljihkoojggaaGreatDoor
