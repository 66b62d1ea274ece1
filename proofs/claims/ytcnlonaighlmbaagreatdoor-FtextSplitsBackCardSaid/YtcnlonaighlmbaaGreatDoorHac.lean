/- The contract of exact's nat plus. -/
import Derived.Test.YtcnlonaighlmbaaGreatDoorHab
import Derived.Deep.DeepCutAuto
import Derived.Deep.LoopGhost
set_option linter.unusedSimpArgs false
set_option linter.unusedVariables false
namespace Go.Proofs.YtcnlonaighlmbaaGreatDoor
open Go.RowKit

namespace Nt
theorem canon_of_big {l : List Nat} (hd : dig l) (h : l = [] ∨ B ^ (l.length - 1) ≤ val l) : canon l := by
  refine ⟨hd, fun hl => ?_⟩
  rcases List.eq_nil_or_concat l with rfl | ⟨a, d, rfl⟩
  · simp at hl
  · rw [List.concat_eq_append] at *
    have hd0 : d = 0 := by simpa using hl
    subst hd0
    have h1 := val_lt (fun x hx => hd x (List.mem_append_left _ hx) : dig a)
    rcases h with h | h
    · simp at h
    · rw [val_snoc, List.length_append, List.length_singleton, Nat.add_sub_cancel] at h
      omega

/-- The digit of a list at a place, 0 behind its end. -/
def at0 (l : List Nat) (k : Nat) : Nat := l.getD k 0
theorem at0_lt {l : List Nat} {k : Nat} (h : k < l.length) : at0 l k = l[k] := by simp [at0, List.getD, h]
theorem at0_ge {l : List Nat} {k : Nat} (h : l.length ≤ k) : at0 l k = 0 := by simp [at0, List.getD, h]
theorem at0_dig {l : List Nat} (h : dig l) (k : Nat) : at0 l k < B := by
  rcases Nat.lt_or_ge k l.length with hk | hk
  · rw [at0_lt hk]; exact h _ (List.getElem_mem hk)
  · rw [at0_ge hk]; decide
theorem val_take_at0 (l : List Nat) (k : Nat) : val (l.take (k + 1)) = val (l.take k) + B ^ k * at0 l k := by
  rcases Nat.lt_or_ge k l.length with hk | hk
  · rw [at0_lt hk]; exact val_take_succ l k hk
  · rw [at0_ge hk, take_of_ge l k hk, take_of_ge l (k + 1) (by omega)]; simp

structure SumAt (la lb O : List Nat) (k c : Nat) : Prop where
  len : O.length = k
  dg : dig O
  c1 : c ≤ 1
  eq : val (la.take k) + val (lb.take k) = val O + c * B ^ k
  big : k = 0 ∨ B ^ (k - 1) ≤ val la + val lb
  fin : la.length < k → lb.length < k → c = 0
theorem SumAt.start (la lb : List Nat) : SumAt la lb [] 0 0 := ⟨rfl, dig_nil, by omega, by simp [val], .inl rfl, fun _ _ => rfl⟩
theorem val_take_le : ∀ (l : List Nat) (k : Nat), val (l.take k) ≤ val l := fun l k => by
  have h := val_append (l.take k) (l.drop k)
  rw [List.take_append_drop] at h
  omega
theorem SumAt.step {la lb O : List Nat} {k c : Nat} (h : SumAt la lb O k c) (ca : canon la) (cb : canon lb) (hk : k < la.length ∨ k < lb.length ∨ 0 < c) :
    SumAt la lb (O ++ [(c + at0 la k + at0 lb k) % B]) (k + 1) ((c + at0 la k + at0 lb k) / B) := by
  have h1 := at0_dig ca.1 k
  have h2 := at0_dig cb.1 k
  have h3 := h.c1
  have hm := Nat.mod_lt (c + at0 la k + at0 lb k) (by decide : B > 0)
  have hdm := Nat.mod_add_div (c + at0 la k + at0 lb k) B
  have hq : (c + at0 la k + at0 lb k) / B ≤ 1 := by
    have : (c + at0 la k + at0 lb k) < 2 * B := by omega
    have := Nat.div_lt_of_lt_mul (by rw [Nat.mul_comm] at this; exact this : c + at0 la k + at0 lb k < B * 2)
    omega
  refine ⟨by rw [List.length_append, h.len]; rfl, dig_append h.dg (dig_one hm), hq, ?_, .inr ?_, ?_⟩
  · rw [val_take_at0, val_take_at0, val_snoc, h.len, Nat.pow_succ]
    have e := h.eq
    have e2 : B ^ k * (c + at0 la k + at0 lb k) = B ^ k * ((c + at0 la k + at0 lb k) % B) + (c + at0 la k + at0 lb k) / B * (B ^ k * B) := by
      conv => lhs; rw [← hdm]
      rw [Nat.mul_add]
      congr 1
      rw [Nat.mul_comm _ (B ^ k * B), Nat.mul_assoc]
    rw [Nat.mul_add, Nat.mul_add] at e2
    have e3 : c * B ^ k = B ^ k * c := Nat.mul_comm _ _
    omega
  · rw [Nat.add_sub_cancel]
    rcases hk with hk | hk | hk
    · have := canon_ge ca (by rintro rfl; simp at hk)
      have h5 : B ^ k ≤ B ^ (la.length - 1) := Nat.pow_le_pow_right (by decide) (by omega)
      omega
    · have := canon_ge cb (by rintro rfl; simp at hk)
      have h5 : B ^ k ≤ B ^ (lb.length - 1) := Nat.pow_le_pow_right (by decide) (by omega)
      omega
    · have e := h.eq
      have : c = 1 := by omega
      subst this
      have := val_take_le la k
      have := val_take_le lb k
      omega
  · intro g1 g2
    rw [at0_ge (by omega : la.length ≤ k), at0_ge (by omega : lb.length ≤ k)]
    apply Nat.div_eq_of_lt
    have : (1 : Nat) < B := by decide
    omega
theorem SumAt.done {la lb O : List Nat} {k : Nat} (h : SumAt la lb O k 0) (ha : la.length ≤ k) (hb : lb.length ≤ k) : O = digs (val la + val lb) := by
  have e := h.eq
  rw [take_of_ge la k ha, take_of_ge lb k hb, Nat.zero_mul, Nat.add_zero] at e
  have hc : canon O := by
    refine canon_of_big h.dg ?_
    rcases h.big with h0 | h0
    · left; have := h.len; rw [h0] at this; exact List.eq_nil_of_length_eq_zero this
    · right; rw [h.len, ← e]; exact h0
  rw [e, digs_val hc]
end Nt

set_option maxRecDepth 100000 in
set_option maxHeartbeats 1000000 in
theorem plus_any (va vb : Value) (la lb : List Nat) (w : World) (ha : Nv w va la) (hb : Nv w vb lb) (ca : Nt.canon la) (cb : Nt.canon lb) (sa : la.length ≤ 1000000) (sb : lb.length ≤ 1000000) :
    Calls Tryz.prog 196 #[va, vb] w fun e w' => ∃ v, e = .returned v ∧ Nv w' v (Nt.digs (Nt.val la + Nt.val lb)) ∧ Below w.heap.size w w' := by
  obtain ⟨A, c, rfl, a1, a2, a0, a3⟩ := ha.ex
  obtain ⟨A', c', rfl, b1, b2, b0, b3⟩ := hb.ex
  obtain ⟨mx, hmx⟩ : ∃ mx, mx = max la.length lb.length := ⟨_, rfl⟩
  have m1 : la.length ≤ mx := by omega
  have m2 : lb.length ≤ mx := by omega
  have m3 : mx ≤ 1000000 := by omega
  have HMX : ((mx : Nat) : Int) = max (la.length : Int) lb.length := by omega
  have HM := Lib.hid HMX
  have CA := Lib.hid ca
  have CB := Lib.hid cb
  clear ha hb ca cb a0 b0 hmx HMX
  go_enter Tryz.func196, Tryz.ntmps196
  go_wp2_with (at_make; refine wp_make_room rfl _ _ rfl w.heap.size _ (mx + 1) rfl rfl ?_ ?_ (Nat.le_refl _) ?_; (have := HM.out; omega); (omega); intro w1 ho1 hg1)
  all_goals
    first | (rename la.length < lb.length => hh; clear hh) | (rename ¬ la.length < lb.length => hh; clear hh)
    have HO := Lib.hid ho1
    have HB1 := Lib.hid (below_made (Below.refl w.heap.size w) (Nat.le_refl _) hg1)
    clear ho1 hg1
    go_loopw [5, 6, 7] (fun s5 s6 s7 wr => ∃ (k cr : Nat) (O : List Nat), s7 = .int .i64 k ∧ s6 = .int .u32 cr ∧ k ≤ mx + 1 ∧ (k = mx + 1 → cr = 0) ∧ Own wr w.heap.size s5 O ∧ Nt.SumAt la lb O k cr ∧ Below w.heap.size w wr) (fun _ _ s7 _ => mx + 1 - (intOf s7).toNat)
    case atStart => exact ⟨0, 0, [], rfl, rfl, by omega, fun _ => rfl, HO.out, Nt.SumAt.start la lb, HB1.out⟩
    case round =>
      obtain ⟨k, cr, O, rfl, rfl, hk, hkf, hown, hsum, hbel⟩ := hrel
      have hc1 := hsum.c1
      have hOl := hsum.len
      have HS := Lib.hid hsum
      have HBel := Lib.hid hbel
      have HOwn := Lib.hid hown
      have HKF := Lib.hid hkf
      have hbz := hbel.size
      have d1 := Nt.at0_dig CA.out.1 k
      have d2 := Nt.at0_dig CB.out.1 k
      have hst : k < la.length ∨ k < lb.length ∨ 0 < cr → Nt.SumAt la lb (O ++ [(cr + Nt.at0 la k + Nt.at0 lb k) % Nt.B]) (k + 1) ((cr + Nt.at0 la k + Nt.at0 lb k) / Nt.B) := fun h => HS.out.step CA.out CB.out h
      have HST := Lib.hid hst
      have HOl := Lib.hid hOl
      clear hsum hbel hown hkf hst hOl
      unfold Nt.B at d1 d2
      by_cases ka : k < la.length
      · obtain ⟨b, o, rfl, hb1, hb2⟩ := a3 (by omega)
        have ca := (HBel.out.cell (p := ⟨b, o + k, none⟩) (by exact hb1)).trans (hb2 k ka)
        have ea := Nt.at0_lt ka
        rw [← ea] at ca
        have HEA := Lib.hid ea
        clear hb2 ea
        generalize Nt.at0 la k = x at *
        by_cases kb : k < lb.length
        · obtain ⟨b', o', rfl, hb1', hb2'⟩ := b3 (by omega)
          have cb := (HBel.out.cell (p := ⟨b', o' + k, none⟩) (by exact hb1')).trans (hb2' k kb)
          have eb := Nt.at0_lt kb
          rw [← eb] at cb
          have HEB := Lib.hid eb
          clear hb2' eb a3 b3
          generalize Nt.at0 lb k = y at *
          go_wp2_with (at_builtin; refine wp_app1 rfl _ _ rfl w.heap.size _ O rfl HOwn.out _ ((cr + x + y) % 1000000000) ?_ rfl ?_ hbz ?_; (omega); (have := HOl.out; omega); intro v2 w2 ho2 hb2 _)
          go_roundw
          case rel => exact ⟨k + 1, (cr + x + y) / 1000000000, _, by go_num, by go_num, by omega, by omega, ho2, HST.out (.inl ka), HBel.out.trans hb2⟩
          case measure => simp [intOf]; omega
        · have eb := Nt.at0_ge (l := lb) (k := k) (by omega)
          have HEB := Lib.hid eb
          clear eb a3 b3 d2
          go_wp2_with (at_builtin; refine wp_app1 rfl _ _ rfl w.heap.size _ O rfl HOwn.out _ ((cr + x) % 1000000000) ?_ rfl ?_ hbz ?_; (omega); (have := HOl.out; omega); intro v2 w2 ho2 hb2 _)
          go_roundw
          case rel =>
            have hs := HST.out (.inl ka)
            rw [HEB.out, Nat.add_zero] at hs
            exact ⟨k + 1, (cr + x) / 1000000000, _, by go_num, by go_num, by omega, by omega, ho2, hs, HBel.out.trans hb2⟩
          case measure => simp [intOf]; omega
      · have ea := Nt.at0_ge (l := la) (k := k) (by omega)
        have HEA := Lib.hid ea
        clear ea d1 a3
        by_cases kb : k < lb.length
        · obtain ⟨b', o', rfl, hb1', hb2'⟩ := b3 (by omega)
          have cb := (HBel.out.cell (p := ⟨b', o' + k, none⟩) (by exact hb1')).trans (hb2' k kb)
          have eb := Nt.at0_lt kb
          rw [← eb] at cb
          have HEB := Lib.hid eb
          clear hb2' eb b3
          generalize Nt.at0 lb k = y at *
          go_wp2_with (at_builtin; refine wp_app1 rfl _ _ rfl w.heap.size _ O rfl HOwn.out _ ((cr + y) % 1000000000) ?_ rfl ?_ hbz ?_; (omega); (have := HOl.out; omega); intro v2 w2 ho2 hb2 _)
          go_roundw
          case rel =>
            have hs := HST.out (.inr (.inl kb))
            rw [HEA.out, Nat.add_zero] at hs
            exact ⟨k + 1, (cr + y) / 1000000000, _, by go_num, by go_num, by omega, by omega, ho2, hs, HBel.out.trans hb2⟩
          case measure => simp [intOf]; omega
        · have eb := Nt.at0_ge (l := lb) (k := k) (by omega)
          have HEB := Lib.hid eb
          clear eb d2 b3
          rcases Nat.eq_zero_or_pos cr with rfl | hpos
          · have hz := HS.out.done (by omega) (by omega)
            have hnv := HOwn.out.nv (by have := HOl.out; omega)
            rw [hz] at hnv
            have HN := Lib.hid hnv
            clear hz hnv
            go_wp2
            go_ret
            exact ⟨_, rfl, HN.out, HBel.out⟩
          · have hp' : (0 : Int) < cr := by omega
            have hk2 : k ≤ mx := by
              rcases Nat.lt_or_ge mx k with h | h
              · have := HKF.out (by omega); omega
              · exact h
            go_wp2_with (at_builtin; refine wp_app1 rfl _ _ rfl w.heap.size _ O rfl HOwn.out _ ((cr) % 1000000000) ?_ rfl ?_ hbz ?_; (omega); (have := HOl.out; omega); intro v2 w2 ho2 hb2 _)
            go_roundw
            case rel =>
              have hs := HST.out (.inr (.inr hpos))
              rw [HEA.out, HEB.out, Nat.add_zero, Nat.add_zero] at hs
              exact ⟨k + 1, (cr) / 1000000000, _, by go_num, by go_num, by omega, by omega, ho2, hs, HBel.out.trans hb2⟩
            case measure => simp [intOf]; omega
end Go.Proofs.YtcnlonaighlmbaaGreatDoor

namespace Go.Proofs.YtcnlonaighlmbaaGreatDoor
open Go.RowKit

namespace Nt
theorem val_set (l : List Nat) (j d : Nat) (h : j < l.length) : val (l.set j d) + B ^ j * l[j] = val l + B ^ j * d := by
  have h1 := val_split l j h
  have h2 := val_split (l.set j d) j (by simpa using h)
  rw [set_take, set_drop] at h2
  simp only [List.getElem_set_self] at h2
  rw [Nat.mul_add] at h1 h2
  omega
theorem val_zeros : ∀ n : Nat, val (List.replicate n 0) = 0
  | 0 => rfl
  | n + 1 => by rw [List.replicate_succ, val_cons, val_zeros n]; rfl
theorem dig_zeros (n : Nat) : dig (List.replicate n 0) := fun d hd => by
  rw [(List.mem_replicate.1 hd).2]; decide
/-- Zeros from a place on. -/
def zfrom (l : List Nat) (k : Nat) : Prop := ∀ j (h : j < l.length), k ≤ j → l[j] = 0
theorem zfrom_set {l : List Nat} {k : Nat} (h : zfrom l k) (j d : Nat) : zfrom (l.set j d) (max k (j + 1)) := fun i hi hk => by
  rw [List.getElem_set]
  split
  · omega
  · exact h i (by simpa using hi) (by omega)
theorem zfrom_set_in {l : List Nat} {k : Nat} (h : zfrom l k) (j d : Nat) (hj : j < k) : zfrom (l.set j d) k := fun i hi hk => by
  rw [List.getElem_set]
  split
  · omega
  · exact h i (by simpa using hi) (by omega)

/-- Behind i digits of the first factor. -/
structure MulAt (la lb O : List Nat) (i : Nat) : Prop where
  len : O.length = la.length + lb.length
  dg : dig O
  eq : val O = val (la.take i) * val lb
  z : zfrom O (i + lb.length)
theorem MulAt.start (la lb : List Nat) : MulAt la lb (List.replicate (la.length + lb.length) 0) 0 :=
  ⟨by simp, dig_zeros _, by rw [val_zeros]; simp [val], fun j h _ => by simp⟩
/-- Behind k digits of the second factor, in the row of the digit x at i. -/
structure RowAt (la lb O : List Nat) (i x k c : Nat) : Prop where
  len : O.length = la.length + lb.length
  dg : dig O
  c1 : c < B
  eq : val O + c * B ^ (i + k) = val (la.take i) * val lb + x * val (lb.take k) * B ^ i
  z : zfrom O (i + lb.length)
theorem MulAt.row {la lb O : List Nat} {i : Nat} (h : MulAt la lb O i) (x : Nat) : RowAt la lb O i x 0 0 :=
  ⟨h.len, h.dg, by decide, by rw [h.eq]; simp [val], h.z⟩
theorem RowAt.bound {x y o c : Nat} (hx : x < B) (hy : y < B) (ho : o < B) (hc : c < B) : x * y + o + c < B * B := by
  have : x * y ≤ (B - 1) * (B - 1) := Nat.mul_le_mul (by omega) (by omega)
  have e : (B - 1) * (B - 1) + (B - 1) + (B - 1) + 1 = B * B := by decide
  omega
theorem RowAt.step {la lb O : List Nat} {i x k c : Nat} (h : RowAt la lb O i x k c) (hx : x < B) (cb : dig lb) (_hi : i < la.length) (hk : k < lb.length) (hO : i + k < O.length) :
    RowAt la lb (O.set (i + k) ((x * lb[k] + O[i + k] + c) % B)) i x (k + 1) ((x * lb[k] + O[i + k] + c) / B) := by
  have hy := cb lb[k] (List.getElem_mem hk)
  have ho := h.dg O[i + k] (List.getElem_mem hO)
  have hb := RowAt.bound hx hy ho h.c1
  have hdm := Nat.mod_add_div (x * lb[k] + O[i + k] + c) B
  generalize hn : x * lb[k] + O[i + k] + c = n at *
  refine ⟨by rw [List.length_set]; exact h.len, dig_set h.dg _ (Nat.mod_lt _ (by decide)), Nat.div_lt_of_lt_mul hb, ?_, zfrom_set_in h.z _ _ (by omega)⟩
  have hs := val_set O (i + k) (n % B) hO
  have he := h.eq
  rw [val_take_succ lb k hk]
  have e1 : n / B * B ^ (i + (k + 1)) = B ^ (i + k) * (B * (n / B)) := by
    rw [← Nat.add_assoc, Nat.pow_succ]
    rw [Nat.mul_comm (n / B), Nat.mul_assoc]
  have e2 : x * (val (lb.take k) + B ^ k * lb[k]) * B ^ i = x * val (lb.take k) * B ^ i + B ^ (i + k) * (x * lb[k]) := by
    rw [Nat.mul_add, Nat.add_mul, Nat.pow_add]
    congr 1
    rw [Nat.mul_comm (B ^ i) (B ^ k), Nat.mul_left_comm x (B ^ k), Nat.mul_assoc, Nat.mul_assoc (B ^ k), Nat.mul_comm (x * lb[k])]
  have e3 : B ^ (i + k) * n = B ^ (i + k) * (n % B) + B ^ (i + k) * (B * (n / B)) := by rw [← Nat.mul_add, hdm]
  have e4 : B ^ (i + k) * n = B ^ (i + k) * (x * lb[k]) + B ^ (i + k) * O[i + k] + B ^ (i + k) * c := by rw [← hn, Nat.mul_add, Nat.mul_add]
  have e5 : c * B ^ (i + k) = B ^ (i + k) * c := Nat.mul_comm _ _
  rw [e1, e2]
  omega
theorem RowAt.done {la lb O : List Nat} {i c : Nat} (hi : i < la.length) (h : RowAt la lb O i la[i] lb.length c) (hO : i + lb.length < O.length) : MulAt la lb (O.set (i + lb.length) c) (i + 1) := by
  have hs := val_set O (i + lb.length) c hO
  have hz := h.z (i + lb.length) hO (Nat.le_refl _)
  rw [hz, Nat.mul_zero, Nat.add_zero] at hs
  have he := h.eq
  rw [List.take_length] at he
  refine ⟨by rw [List.length_set]; exact h.len, dig_set h.dg _ h.c1, ?_, ?_⟩
  · rw [hs, val_take_succ la i hi, Nat.add_mul]
    have e5 : c * B ^ (i + lb.length) = B ^ (i + lb.length) * c := Nat.mul_comm _ _
    have e6 : B ^ i * la[i] * val lb = la[i] * val lb * B ^ i := by
      rw [Nat.mul_assoc, Nat.mul_comm]
    omega
  · have := zfrom_set h.z (i + lb.length) c
    rw [show max (i + lb.length) (i + lb.length + 1) = i + 1 + lb.length by omega] at this
    exact this
theorem MulAt.done {la lb O : List Nat} (h : MulAt la lb O la.length) : val O = val la * val lb := by
  have := h.eq
  rwa [List.take_length] at this
end Nt

theorem mul_bound {x y : Nat} (hx : x < 1000000000) (hy : y < 1000000000) : x * y ≤ 999999998000000001 := by
  have : x * y ≤ 999999999 * 999999999 := Nat.mul_le_mul (by omega) (by omega)
  omega

set_option maxRecDepth 100000 in
set_option maxHeartbeats 2000000 in
theorem times_any (va vb : Value) (la lb : List Nat) (w : World) (ha : Nv w va la) (hb : Nv w vb lb) (ca : Nt.canon la) (cb : Nt.canon lb) (sa : la.length ≤ 1000000) (sb : lb.length ≤ 1000000) :
    Calls Tryz.prog 176 #[va, vb] w fun e w' => ∃ v, e = .returned v ∧ Nv w' v (Nt.digs (Nt.val la * Nt.val lb)) ∧ Below w.heap.size w w' := by
  obtain ⟨A, c, rfl, a1, a2, a0, a3⟩ := ha.ex
  obtain ⟨A', c', rfl, b1, b2, b0, b3⟩ := hb.ex
  have CA := Lib.hid ca
  have CB := Lib.hid cb
  clear ha hb ca cb a0 b0
  go_enter Tryz.func176, Tryz.ntmps176
  go_wp2_with (at_make; refine wp_make0 rfl _ _ rfl w.heap.size _ _ (la.length + lb.length) rfl rfl ?_ ?_ ?_ (Nat.le_refl _) ?_; (go_num); (go_num); (omega); intro w1 ho1 hg1 hs1)
  have HO := Lib.hid ho1
  have HB1 := Lib.hid (below_made (Below.refl w.heap.size w) (Nat.le_refl _) hg1)
  clear ho1 hg1
  go_loopw [20] (fun s20 wr => ∃ (i : Nat) (O : List Nat), s20 = .int .i64 i ∧ i ≤ la.length ∧ Own wr w.heap.size (.slice (some ⟨w.heap.size, 0, none⟩) (la.length + lb.length) (la.length + lb.length)) O ∧ Nt.MulAt la lb O i ∧ Below w.heap.size w wr) (fun s20 _ => la.length - (intOf s20).toNat)
  case atStart => exact ⟨0, _, rfl, by omega, HO.out, Nt.MulAt.start la lb, HB1.out⟩
  case round =>
    obtain ⟨i, O, rfl, hi, hown, hmul, hbel⟩ := hrel
    by_cases hlt : i < la.length
    · obtain ⟨b, o, rfl, hb1, hb2⟩ := a3 (by omega)
      have hcx := (hbel.cell (p := ⟨b, o + i, none⟩) (by exact hb1)).trans (hb2 i hlt)
      have hx := CA.out.1 la[i] (List.getElem_mem hlt)
      have hrow := hmul.row la[i]
      have HR := Lib.hid hrow
      have HBel := Lib.hid hbel
      have HOwn := Lib.hid hown
      obtain ⟨x, ex⟩ : ∃ x, x = la[i] := ⟨_, rfl⟩
      rw [← ex] at hcx hx
      have EX := Lib.hid ex
      clear hrow hmul hbel hown hb2 a3 ex
      unfold Nt.B at hx
      obtain ⟨wo, rfl⟩ : ∃ wo : World, wo = wr := ⟨_, rfl⟩
      go_wp2
      go_loopw [8, 27] (fun s8 s27 wr => ∃ (k cr : Nat) (O : List Nat), s27 = .int .i64 k ∧ s8 = .int .u64 cr ∧ k ≤ lb.length ∧ Own wr w.heap.size (.slice (some ⟨w.heap.size, 0, none⟩) (la.length + lb.length) (la.length + lb.length)) O ∧ Nt.RowAt la lb O i x k cr ∧ Below w.heap.size w wr) (fun _ s27 _ => lb.length - (intOf s27).toNat)
      case atStart => exact ⟨0, 0, O, rfl, rfl, by omega, HOwn.out, by rw [EX.out]; exact HR.out, HBel.out⟩
      case round =>
        obtain ⟨k, cr, O2, rfl, rfl, hk, hown, hrow, hbel⟩ := hrel
        have hc1 := hrow.c1
        have HROW := Lib.hid hrow
        have HBel2 := Lib.hid hbel
        have HOwn2 := Lib.hid hown
        have HLen := Lib.hid hrow.len
        have hOl := hrow.len
        unfold Nt.B at hc1
        by_cases hlk : k < lb.length
        · obtain ⟨b', o', rfl, hb1', hb2'⟩ := b3 (by omega)
          have hcy := (hbel.cell (p := ⟨b', o' + k, none⟩) (by exact hb1')).trans (hb2' k hlk)
          have hy := CB.out.1 lb[k] (List.getElem_mem hlk)
          have hik : i + k < O2.length := by omega
          have hco := hown.cell' hOl hik
          have hfo := hown.frozen' hOl (i + k)
          have ho := hrow.dg O2[i + k] (List.getElem_mem hik)
          have hst := hrow.step (by unfold Nt.B; exact hx) CB.out.1 hlt hlk hik
          have HST := Lib.hid hst
          obtain ⟨y, ey⟩ : ∃ y, y = lb[k] := ⟨_, rfl⟩
          rw [← ey] at hcy hy
          have EY := Lib.hid ey
          have EZ := Lib.hid (rfl : O2[i + k] = O2[i + k])
          obtain ⟨z, ez⟩ : ∃ z, z = O2[i + k] := ⟨_, rfl⟩
          rw [← ez] at hco ho
          have EZ := Lib.hid ez
          unfold Nt.B at hy ho
          have hxy := mul_bound hx hy
          have hxy1 : (x : Int) * y ≤ 999999998000000001 := by
            have : ((x * y : Nat) : Int) ≤ 999999998000000001 := by omega
            rwa [Int.natCast_mul] at this
          have hxy0 : 0 ≤ (x : Int) * y := by
            have : (0 : Int) ≤ ((x * y : Nat) : Int) := by omega
            rwa [Int.natCast_mul] at this
          clear hrow hbel hown hb2' b3 hst hOl hxy ey ez
          go_wp2
          go_roundw
          case rel =>
            have h := HST.out
            rw [← EY.out, ← EZ.out] at h
            exact ⟨k + 1, (x * y + z + cr) / 1000000000, _, by go_num, by go_num, by omega, HOwn2.out.set' HLen.out (i + k) ((x * y + z + cr) % 1000000000) (by go_num), h, HBel2.out.setCell (by exact Nat.le_refl _) _⟩
          case measure => simp [intOf]; omega
        · obtain rfl : k = lb.length := by omega
          have hil : i + lb.length < O2.length := by omega
          have hco := hown.cell' hOl hil
          have hfo := hown.frozen' hOl (i + lb.length)
          have hdone := fun h => Nt.RowAt.done (O := O2) (c := cr) hlt h hil
          have HD := Lib.hid hdone
          clear hrow hbel hown b3 hOl hdone
          go_wp2
          go_roundw
          case rel =>
            refine ⟨i + 1, _, by go_num, by omega, HOwn2.out.set' HLen.out (i + lb.length) cr (by go_num), HD.out ?_, HBel2.out.setCell (by exact Nat.le_refl _) _⟩
            have h := HROW.out
            rw [EX.out] at h
            exact h
          case measure => simp [intOf]; omega
    · obtain rfl : i = la.length := by omega
      have hv := hmul.done
      have hnv := hown
      have hdg := hmul.dg
      have hol := hmul.len
      have e : Nt.trimL O = Nt.digs (Nt.val la * Nt.val lb) := by rw [← hv, ← Nt.digs_val (Nt.trimL_canon hdg), Nt.trimL_val hdg]
      have hnv : Nv wr (.slice (some ⟨w.heap.size, 0, none⟩) (la.length + lb.length) (la.length + lb.length)) O := by
        refine Own.nv (base := w.heap.size) ?_ (by omega)
        exact hown
      have htr := fun W => trim_any (.slice (some ⟨w.heap.size, 0, none⟩) (la.length + lb.length) (la.length + lb.length)) W O.length O rfl
      have HD := Lib.hid hdg
      have HT := Lib.hid htr
      have HE := Lib.hid e
      have HN := Lib.hid hnv
      have HBel := Lib.hid hbel
      clear hmul hv hnv htr e hown a3 b3 hbel hdg hol
      go_wp2_with (go_at_call 136; refine (HT.out _ HN.out HD.out).mono ?_; rintro e w2 ⟨v2, rfl, hn2, rfl⟩)
      go_ret
      exact ⟨v2, rfl, by rw [← HE.out]; exact hn2, HBel.out⟩
end Go.Proofs.YtcnlonaighlmbaaGreatDoor

namespace Go.Proofs.YtcnlonaighlmbaaGreatDoor
open Go.RowKit

namespace Nt
theorem val_drop_lt {l : List Nat} (h : dig l) (k : Nat) : val (l.drop k) < B ^ (l.length - k) := by
  have := val_lt (dig_drop h k)
  rwa [List.length_drop] at this
theorem val_take_drop (l : List Nat) (k : Nat) (h : k ≤ l.length) : val l = val (l.take k) + B ^ k * val (l.drop k) := by
  have e := val_append (l.take k) (l.drop k)
  rw [List.take_append_drop, List.length_take, Nat.min_eq_left h] at e
  exact e
/-- The leading digit. -/
theorem lead {l : List Nat} (h : canon l) (k : Nat) (hk : k < l.length) (hl : k + 1 = l.length) : 0 < l[k] ∧ l[k] < B ∧ val l = val (l.take k) + B ^ k * l[k] ∧ val (l.take k) < B ^ k := by
  have h1 := val_take_succ l k hk
  rw [take_of_ge l (k + 1) (by omega)] at h1
  have h2 := val_lt (dig_take h.1 k)
  rw [List.length_take, Nat.min_eq_left (by omega)] at h2
  refine ⟨?_, h.1 _ (List.getElem_mem hk), h1, h2⟩
  rcases Nat.eq_zero_or_pos l[k] with e | e
  · exfalso
    apply h.2
    rw [List.getLast?_eq_getElem?, List.getElem?_eq_getElem (by omega)]
    have : l.length - 1 = k := by omega
    simp only [this, e]
  · exact e
theorem len_quot {r b : List Nat} (cr : canon r) (cb : canon b) (h : val r < val b * B) : r.length ≤ b.length + 1 := by
  rcases Nat.lt_or_ge (b.length + 1) r.length with hl | hl
  · have h1 := canon_ge cr (by rintro rfl; simp at hl)
    have h2 := val_lt cb.1
    have h3 : B ^ (b.length + 1) ≤ B ^ (r.length - 1) := Nat.pow_le_pow_right (by decide) (by omega)
    have h4 : val b * B < B ^ b.length * B := Nat.mul_lt_mul_of_pos_right h2 (by decide)
    rw [Nat.pow_succ] at h3
    omega
  · exact hl
/-- The bounds that the leading digits give. -/
theorem quot_low {r b : List Nat} {k : Nat} (_cr : canon r) (cb : canon b) (hk : k < b.length) (hl : k + 1 = b.length) (hr : k ≤ r.length) :
    val b * (val (r.drop k) / (b[k] + 1)) ≤ val r := by
  obtain ⟨h1, h2, h3, h4⟩ := lead cb k hk hl
  have e := val_take_drop r k hr
  have h5 := Nat.div_mul_le_self (val (r.drop k)) (b[k] + 1)
  generalize val (r.drop k) / (b[k] + 1) = q at *
  have h6 : val b ≤ B ^ k * (b[k] + 1) := by rw [h3, Nat.mul_succ]; omega
  have h7 : val b * q ≤ B ^ k * (b[k] + 1) * q := Nat.mul_le_mul_right _ h6
  have h8 : B ^ k * (b[k] + 1) * q ≤ B ^ k * val (r.drop k) := by
    rw [Nat.mul_assoc, Nat.mul_comm (b[k] + 1)]
    exact Nat.mul_le_mul_left _ h5
  omega
theorem quot_top {r b : List Nat} {k : Nat} (cr : canon r) (cb : canon b) (hk : k < b.length) (hl : k + 1 = b.length) (hr : k ≤ r.length) :
    val r < val b * (val (r.drop k) / b[k] + 1) := by
  obtain ⟨h1, h2, h3, h4⟩ := lead cb k hk hl
  have e := val_take_drop r k hr
  have h5 : val (r.drop k) < b[k] * (val (r.drop k) / b[k] + 1) := by
    have := Nat.lt_mul_div_succ (val (r.drop k)) h1
    exact this
  generalize val (r.drop k) / b[k] = q at *
  have h4' := val_lt (dig_take cr.1 k)
  rw [List.length_take, Nat.min_eq_left hr] at h4'
  have h6 : B ^ k * b[k] * (q + 1) ≤ val b * (q + 1) := Nat.mul_le_mul_right _ (by omega)
  have h7 : B ^ k * (val (r.drop k) + 1) ≤ B ^ k * (b[k] * (q + 1)) := Nat.mul_le_mul_left _ h5
  rw [Nat.mul_succ] at h7
  rw [Nat.mul_assoc] at h6
  omega
theorem quot_of {r b q : Nat} (h1 : b * q ≤ r) (h2 : r < b * (q + 1)) : q = r / b := by
  have hb : 0 < b := by
    rcases Nat.eq_zero_or_pos b with e | e
    · subst e; simp at h2
    · exact e
  have h3 := (Nat.le_div_iff_mul_le hb (x := q) (y := r)).2 (by rw [Nat.mul_comm]; exact h1)
  have h4 := Nat.div_lt_of_lt_mul h2
  omega
theorem digs_one {m : Nat} (h : m < B) : trimL [m] = digs m := by
  have h1 : dig [m] := dig_one h
  rw [← digs_val (trimL_canon h1), trimL_val h1]
  simp [val]
end Nt

set_option maxRecDepth 100000 in
set_option maxHeartbeats 2000000 in
theorem digit_any (va vb : Value) (r b : List Nat) (w : World) (ha : Nv w va r) (hb : Nv w vb b) (ca : Nt.canon r) (cb : Nt.canon b) (sb : b.length ≤ 900000) (h0 : 0 < Nt.val b) (hlt : Nt.val r < Nt.val b * Nt.B) :
    Calls Tryz.prog 174 #[va, vb] w fun e w' => e = .returned (.int .u32 ((Nt.val r / Nt.val b : Nat) : Int)) ∧ Below w.heap.size w w' := by
  have hlen := Nt.len_quot ca cb hlt
  have hcmp := fun W h1 h2 => compare_any va vb r b W h1 h2 ca cb
  obtain ⟨A, c, rfl, a1, a2, a0, a3⟩ := ha.ex
  obtain ⟨A', c', rfl, b1, b2, b0, b3⟩ := hb.ex
  have HA := Lib.hid ha
  have HB := Lib.hid hb
  have CA := Lib.hid ca
  have CB := Lib.hid cb
  have HC := Lib.hid hcmp
  have HLT := Lib.hid hlt
  have H0 := Lib.hid h0
  have hne : 0 < b.length := by
    rcases Nat.eq_zero_or_pos b.length with e | e
    · rw [List.eq_nil_of_length_eq_zero e] at h0; simp [Nt.val] at h0
    · exact e
  clear ha hb ca cb a0 b0 hcmp hlt h0
  by_cases hsm : Nt.val r < Nt.val b
  · have hq : Nt.val r / Nt.val b = 0 := Nat.div_eq_of_lt hsm
    have HQ := Lib.hid hq
    have HS := Lib.hid hsm
    clear hq hsm a3 b3
    go_enter Tryz.func174, Tryz.ntmps174
    go_wp2_with (go_at_call 207; refine (HC.out _ HA.out HB.out).mono ?_; rintro e w1 ⟨q, n, rfl, hq, q1, q2, rfl⟩; have hneg : q < 0 := (by rcases hq with ⟨h, _⟩ | ⟨_, h⟩ | ⟨_, h⟩; exact h; (have := HS.out; omega); (have := HS.out; omega)); clear hq)
    go_ret
    exact ⟨by rw [HQ.out]; rfl, below_drewN (Below.refl _ _) _⟩
  · obtain ⟨k, hk⟩ : ∃ k, k + 1 = b.length := ⟨b.length - 1, by omega⟩
    have hkb : k < b.length := by omega
    have hrb : b.length ≤ r.length := Nt.len_of_le CA.out CB.out (by omega)
    have hkr : k ≤ r.length := by omega
    have hql := Nt.quot_low CA.out CB.out hkb hk hkr
    have hqt := Nt.quot_top CA.out CB.out hkb hk hkr
    obtain ⟨l1, l2, l3, l4⟩ := Nt.lead CB.out k hkb hk
    clear l3 l4
    obtain ⟨b', o', rfl, hb1', hb2'⟩ := b3 hne
    have hcb := hb2' k hkb
    obtain ⟨y, ey⟩ : ∃ y, y = b[k] := ⟨_, rfl⟩
    rw [← ey] at hcb l1 l2 hql hqt
    clear ey
    have HQL := Lib.hid hql
    have HQT := Lib.hid hqt
    have HS := Lib.hid hsm
    have HK := Lib.hid hk
    have ek : ((b.length : Nat) : Int) - 1 = k := by omega
    obtain ⟨bA, oA, rfl, ha1, ha2⟩ := a3 (by omega)
    have HA2 := Lib.hid ha2
    clear hql hqt hsm hb2' b3 hk a3 ha2
    go_enter Tryz.func174, Tryz.ntmps174
    go_wp2_with (go_at_call 207; refine (HC.out _ HA.out HB.out).mono ?_; rintro e w1 ⟨q, n, rfl, hq, q1, q2, rfl⟩; have hneg : ¬ q < 0 := (by rcases hq with ⟨_, h⟩ | ⟨h, _⟩ | ⟨h, _⟩; (have := HS.out; omega); (omega); (omega)); clear hq)
    go_loop [6, 7] (fun s6 s7 => ∃ j : Nat, k ≤ j ∧ j ≤ r.length ∧ s7 = .int .i64 ((j : Int) - 1) ∧ s6 = .int .u64 (Nt.val (r.drop j) : Int)) (fun _ s7 => (intOf s7 + 1).toNat)
    case atStart => exact ⟨r.length, hkr, Nat.le_refl _, rfl, by rw [List.drop_length]; rfl⟩
    case round =>
      obtain ⟨j, hj1, hj2, rfl, rfl⟩ := hrel
      rcases Nat.eq_or_lt_of_le hj1 with rfl | hj
      · have hv := Nt.val_drop_lt CA.out.1 k
        have hpw : Nt.B ^ (r.length - k) ≤ Nt.B ^ 2 := Nat.pow_le_pow_right (by decide) (by have := HK.out; omega)
        have hB2 : Nt.B ^ 2 = 1000000000000000000 := by decide
        have hv2 : Nt.val (r.drop k) < 1000000000000000000 := by omega
        have HQL2 := HQL.out
        have HQT2 := HQT.out
        clear hv hpw hB2
        generalize Nt.val (r.drop k) = h at *
        obtain ⟨lo0, hlo⟩ : ∃ lo0, lo0 = h / (y + 1) := ⟨_, rfl⟩
        rw [← hlo] at HQL2
        have hlo1 : (h : Int) / ((y : Int) + 1) = lo0 := by rw [hlo, Int.natCast_ediv, Int.natCast_add]; rfl
        have K1 := Lib.hid HQL2
        have K2 := Lib.hid HQT2
        obtain ⟨qd, hqd⟩ : ∃ qd, qd = h / y := ⟨_, rfl⟩
        have q1 : (h : Int) / (y : Int) = qd := by rw [hqd, Int.natCast_ediv]
        have q2 : qd ≤ h := by rw [hqd]; exact Nat.div_le_self h y
        have q3 : lo0 ≤ h := by rw [hlo]; exact Nat.div_le_self h (y + 1)
        have w1 : IntKind.u64.wrap (y : Int) = y := IntWalk.u64_in _ (by unfold Nt.B at l2; omega)
        have w2 : IntKind.u64.wrap ((y : Int) + 1) = (y : Int) + 1 := IntWalk.u64_in _ (by unfold Nt.B at l2; omega)
        have w3 : IntKind.u64.wrap (lo0 : Int) = lo0 := IntWalk.u64_in _ (by omega)
        have w4 : IntKind.u64.wrap (qd : Int) = qd := IntWalk.u64_in _ (by omega)
        have y1 : ¬ (y : Int) + 1 = 0 := by omega
        have y0 : ¬ y = 0 := by omega
        rw [← hqd] at K2
        clear hqd HQL2 HQT2 hlo HQL HQT q3
        go_wp2
        have KT : Hid (∃ tp : Nat, tp < 1000000000 ∧ Nt.val r < Nt.val b * (tp + 1) ∧ (qd < 999999999 → tp = qd) ∧ (999999999 < qd → tp = 999999999) ∧ (qd = 999999999 → tp = 999999999)) := by
          refine Lib.hid ?_
          by_cases hc : qd < 999999999
          · exact ⟨qd, by omega, K2.out, fun _ => rfl, fun h => by omega, fun h => h⟩
          · exact ⟨999999999, by omega, HLT.out, fun h => absurd h hc, fun _ => rfl, fun _ => rfl⟩
        rcases Nat.lt_trichotomy qd 999999999 with hc | hc | hc
        case' inl =>
          have hc' : (qd : Int) < 999999999 := by omega
          obtain ⟨tp0, t1, t2, t3, t4, t5⟩ := KT.out
          obtain rfl : tp0 = qd := t3 hc
        case' inr.inl =>
          obtain ⟨tp0, t1, t2, t3, t4, t5⟩ := KT.out
          obtain rfl : tp0 = 999999999 := t5 hc
          subst hc
        case' inr.inr =>
          have hc' : (999999999 : Int) < qd := by omega
          obtain ⟨tp0, t1, t2, t3, t4, t5⟩ := KT.out
          obtain rfl : tp0 = 999999999 := t4 hc
        all_goals
          have K0 := Lib.hid t2
          clear t2 KT t3 t4 t5
          go_region
          go_wp2
          clear q1 w1 w2 w3 w4 y1 y0 hlo1
          try clear hc'
          try clear hc
          go_loopw [8, 9] (fun s8 s9 wr => ∃ lo tp : Nat, s8 = .int .u64 lo ∧ s9 = .int .u64 tp ∧ tp < 1000000000 ∧ Nt.val b * lo ≤ Nt.val r ∧ Nt.val r < Nt.val b * (tp + 1) ∧ Below w.heap.size w wr) (fun s8 s9 _ => (intOf s9 - intOf s8).toNat)
          case atStart => exact ⟨lo0, _, rfl, by go_num, t1, K1.out, K0.out, below_drewN (Below.refl _ _) _⟩
          case round =>
            obtain ⟨lo, tp, rfl, rfl, ht, h1, h2, hbel⟩ := hrel
            have hlt : lo < tp + 1 := Nat.lt_of_mul_lt_mul_left (Nat.lt_of_le_of_lt h1 h2)
            have hbz := hbel.size
            have HBel := Lib.hid hbel
            have H1 := Lib.hid h1
            have H2 := Lib.hid h2
            clear h1 h2 hbel
            by_cases hc : lo < tp
            · obtain ⟨m, hm⟩ : ∃ m, m = (lo + tp + 1) / 2 := ⟨_, rfl⟩
              have hmi : ((lo : Int) + tp + 1) / 2 = m := by omega
              have m1 : lo < m := by omega
              have m2 : m ≤ tp := by omega
              have hN : Nv (wr.alloc (.cells #[.int .u32 (m : Int)] 111)) (.slice (some ⟨wr.heap.size, 0, none⟩) 1 1) [m] := (own_lit1 wr w.heap.size hbz m m rfl).nv (by simp)
              have hB2 : Below w.heap.size w (wr.alloc (.cells #[.int .u32 (m : Int)] 111)) := HBel.out.alloc hbz _
              have hb2 := HB.out.below hB2
              have ht1 := fun W h => trim_any (.slice (some ⟨wr.heap.size, 0, none⟩) 1 1) W 1 [m] rfl h (Nt.dig_one (by unfold Nt.B; omega))
              rw [Nt.digs_one (by unfold Nt.B; omega : m < Nt.B)] at ht1
              have ht2 := fun W v h1 h2 => times_any (.slice (some ⟨b', o', none⟩) b.length c') v b (Nt.digs m) W h1 h2 CB.out (Nt.digs_canon m) (by omega) (Nat.le_trans (Nt.digs_len (k := 1) (by rw [Nat.pow_one]; unfold Nt.B; omega)) (by omega))
              rw [Nt.val_digs] at ht2
              have ht3 := fun W v h1 h2 => compare_any v (.slice (some ⟨bA, oA, none⟩) r.length c) (Nt.digs (Nt.val b * m)) r W h1 h2 (Nt.digs_canon _) CA.out
              rw [Nt.val_digs] at ht3
              have T1 := Lib.hid ht1
              have T2 := Lib.hid ht2
              have T3 := Lib.hid ht3
              have HN := Lib.hid hN
              have HB2 := Lib.hid hB2
              have HBB := Lib.hid hb2
              have HM := Lib.hid hm
              clear ht1 ht2 ht3 hN hB2 hb2 hm
              by_cases hle : Nt.val b * m ≤ Nt.val r
              · have HLE := Lib.hid hle
                clear hle
                go_wp2_with (first | (go_at_call 136; refine (T1.out _ HN.out).mono ?_; rintro e w2 ⟨v2, rfl, hn2, rfl⟩) | (go_at_call 176; refine (T2.out _ _ HBB.out hn2).mono ?_; rintro e w3 ⟨v3, rfl, hn3, hb3⟩) | (go_at_call 207; refine (T3.out _ _ hn3 (HA.out.below (HB2.out.trans (hb3.mono HB2.out.size)))).mono ?_; rintro e w4 ⟨q5, n5, rfl, hq5, q6, q7, rfl⟩; have hqq : q5 ≤ 0 := (by rcases hq5 with ⟨h, _⟩ | ⟨h, _⟩ | ⟨_, h⟩; (omega); (omega); (have := HLE.out; omega)); clear hq5))
                go_roundw
                case rel => exact ⟨m, tp, by go_num, rfl, ht, HLE.out, H2.out, below_drewN (HB2.out.trans (hb3.mono HB2.out.size)) _⟩
                case measure => simp [intOf]; omega
              · have hgt : Nt.val r < Nt.val b * (m - 1 + 1) := by
                  rw [Nat.sub_add_cancel (by omega)]; omega
                have HGT := Lib.hid hgt
                have HLE := Lib.hid hle
                clear hle hgt
                have hm1 : ((m - 1 : Nat) : Int) = (m : Int) - 1 := by omega
                go_wp2_with (first | (go_at_call 136; refine (T1.out _ HN.out).mono ?_; rintro e w2 ⟨v2, rfl, hn2, rfl⟩) | (go_at_call 176; refine (T2.out _ _ HBB.out hn2).mono ?_; rintro e w3 ⟨v3, rfl, hn3, hb3⟩) | (go_at_call 207; refine (T3.out _ _ hn3 (HA.out.below (HB2.out.trans (hb3.mono HB2.out.size)))).mono ?_; rintro e w4 ⟨q5, n5, rfl, hq5, q6, q7, rfl⟩; have hqq : ¬ q5 ≤ 0 := (by rcases hq5 with ⟨_, h⟩ | ⟨_, h⟩ | ⟨h, _⟩; (have := HLE.out; omega); (have := HLE.out; omega); (omega)); clear hq5))
                go_roundw
                case rel => exact ⟨lo, m - 1, rfl, by rw [hm1], by omega, H1.out, HGT.out, below_drewN (HB2.out.trans (hb3.mono HB2.out.size)) _⟩
                case measure => simp [intOf]; omega
            · obtain rfl : lo = tp := by omega
              have hq := Nt.quot_of H1.out H2.out
              have HQ := Lib.hid hq
              clear hq
              go_wp2
              go_ret
              exact ⟨ret_int (by rw [← HQ.out]), HBel.out⟩
      · obtain ⟨i, rfl⟩ : ∃ i, j = i + 1 := ⟨j - 1, by omega⟩
        have hir : i < r.length := by omega
        have hci := HA2.out i hir
        have hd := CA.out.1 r[i] (List.getElem_mem hir)
        have hv := Nt.val_drop_lt CA.out.1 (i + 1)
        have hpw : Nt.B ^ (r.length - (i + 1)) ≤ Nt.B ^ 1 := Nat.pow_le_pow_right (by decide) (by omega)
        have hv2 : Nt.val (r.drop (i + 1)) < 1000000000 := by rw [Nat.pow_one] at hpw; unfold Nt.B at hpw hv; omega
        have es : Nt.val (r.drop i) = r[i] + Nt.B * Nt.val (r.drop (i + 1)) := by rw [List.drop_eq_getElem_cons hir, Nt.val_cons]
        have ei : ((i + 1 : Nat) : Int) - 1 = i := by omega
        rw [ei]
        have ES := Lib.hid es
        unfold Nt.B at hd
        generalize Nt.val (r.drop (i + 1)) = h at *
        clear hv hpw es ei
        obtain ⟨x, ex⟩ : ∃ x, x = r[i] := ⟨_, rfl⟩
        rw [← ex] at hci hd
        have EX := Lib.hid ex
        clear ex
        go_wp2
        go_round
        case rel => exact ⟨i, by omega, by omega, rfl, by rw [ES.out, ← EX.out]; unfold Nt.B; go_num⟩
        case measure => simp [intOf]
end Go.Proofs.YtcnlonaighlmbaaGreatDoor

namespace Go.Proofs.YtcnlonaighlmbaaGreatDoor
open Go.RowKit

namespace Nt
theorem digs_shift {d R : Nat} (h : d < B) : trimL (d :: digs R) = digs (d + B * R) := by
  have h1 : dig (d :: digs R) := fun x hx => by
    rcases List.mem_cons.1 hx with rfl | hx
    · exact h
    · exact (digs_canon R).1 x hx
  rw [← digs_val (trimL_canon h1), trimL_val h1, val_cons, val_digs]
/-- Behind the digits of the dividend from j on. -/
structure DivAt (a : List Nat) (b : Nat) (O : List Nat) (j R : Nat) : Prop where
  len : O.length = a.length
  dg : dig O
  lt : R < b
  eq : val (a.drop j) = b * val (O.drop j) + R
theorem DivAt.start (a : List Nat) {b : Nat} (h : 0 < b) : DivAt a b (List.replicate a.length 0) a.length 0 :=
  ⟨by simp, dig_zeros _, h, by simp [val]⟩
theorem DivAt.x_lt {b d R : Nat} (hd : d < B) (hR : R < b) : d + B * R < b * B := by
  have h1 : B * (R + 1) ≤ B * b := Nat.mul_le_mul_left _ hR
  rw [Nat.mul_succ, Nat.mul_comm B b] at h1
  omega
theorem DivAt.step {a O : List Nat} {b i R : Nat} (h : DivAt a b O (i + 1) R) (ha : dig a) (hi : i < a.length) (hb : 0 < b) :
    DivAt a b (O.set i ((a[i] + B * R) / b)) i ((a[i] + B * R) % b) := by
  have hiO : i < O.length := by rw [h.len]; exact hi
  have hx := DivAt.x_lt (ha a[i] (List.getElem_mem hi)) h.lt
  refine ⟨by rw [List.length_set]; exact h.len, dig_set h.dg _ (Nat.div_lt_of_lt_mul hx), Nat.mod_lt _ hb, ?_⟩
  rw [List.drop_eq_getElem_cons hi, List.drop_eq_getElem_cons (l := O.set i ((a[i] + B * R) / b)) (by simpa using hiO), val_cons, val_cons, set_drop, h.eq]
  simp only [List.getElem_set_self]
  have hdm := Nat.mod_add_div (a[i] + B * R) b
  have e1 : B * (b * val (O.drop (i + 1)) + R) = b * (B * val (O.drop (i + 1))) + B * R := by rw [Nat.mul_add, Nat.mul_left_comm]
  rw [e1, Nat.mul_add]
  omega
theorem DivAt.done {a O : List Nat} {b R : Nat} (h : DivAt a b O 0 R) : val O = val a / b ∧ R = val a % b := by
  have e := h.eq
  simp only [List.drop_zero] at e
  have hb : 0 < b := by have := h.lt; omega
  have h1 : val O = val a / b := by
    refine quot_of (by rw [e]; omega) ?_
    rw [e, Nat.mul_succ]
    have := h.lt
    omega
  refine ⟨h1, ?_⟩
  have h2 := Nat.mod_add_div (val a) b
  rw [← h1] at h2
  omega
end Nt

set_option maxRecDepth 100000 in
set_option maxHeartbeats 2000000 in
theorem divide_any (va vb : Value) (a b : List Nat) (w : World) (ha : Nv w va a) (hb : Nv w vb b) (ca : Nt.canon a) (cb : Nt.canon b) (sa : a.length ≤ 900000) (sb : b.length ≤ 900000) (h0 : 0 < Nt.val b) :
    Calls Tryz.prog 138 #[va, vb] w fun e w' => ∃ v1 v2, e = .returned (.tuple #[v1, v2]) ∧ Nv w' v1 (Nt.digs (Nt.val a / Nt.val b)) ∧ Nv w' v2 (Nt.digs (Nt.val a % Nt.val b)) ∧ Below w.heap.size w w' := by
  obtain ⟨A, c, rfl, a1, a2, a0, a3⟩ := ha.ex
  have HB := Lib.hid hb
  have CA := Lib.hid ca
  have CB := Lib.hid cb
  have H0 := Lib.hid h0
  clear ha hb ca cb a0 h0
  go_enter Tryz.func138, Tryz.ntmps138
  go_wp2_with (at_make; refine wp_make0 rfl _ _ rfl w.heap.size _ _ a.length rfl rfl ?_ ?_ ?_ (Nat.le_refl _) ?_; (go_num); (go_num); (omega); intro w1 ho1 hg1 hs1)
  have HO := Lib.hid ho1
  have HB1 := Lib.hid (below_made (Below.refl w.heap.size w) (Nat.le_refl _) hg1)
  clear ho1 hg1
  go_loopw [7, 8] (fun s7 s8 wr => ∃ (j R : Nat) (O : List Nat), s8 = .int .i64 ((j : Int) - 1) ∧ j ≤ a.length ∧ Nv wr s7 (Nt.digs R) ∧ Own wr w.heap.size (.slice (some ⟨w.heap.size, 0, none⟩) a.length a.length) O ∧ Nt.DivAt a (Nt.val b) O j R ∧ Below w.heap.size w wr ∧ w.heap.size < wr.heap.size) (fun _ s8 _ => (intOf s8 + 1).toNat)
  case atStart => exact ⟨a.length, 0, _, rfl, Nat.le_refl _, by rw [Nt.digs_zero]; exact Nv.nil, HO.out, Nt.DivAt.start a H0.out, HB1.out, hs1⟩
  case round =>
    obtain ⟨j, R, O, rfl, hj, hnv, hown, hdiv, hbel, hgt⟩ := hrel
    rcases Nat.eq_zero_or_pos j with rfl | hpos
    · obtain ⟨e1, e2⟩ := hdiv.done
      have hdg := hdiv.dg
      have hol := hdiv.len
      have e : Nt.trimL O = Nt.digs (Nt.val a / Nt.val b) := by rw [← e1, ← Nt.digs_val (Nt.trimL_canon hdg), Nt.trimL_val hdg]
      have hnv1 : Nv wr (.slice (some ⟨w.heap.size, 0, none⟩) a.length a.length) O := by
        refine Own.nv (base := w.heap.size) ?_ (by omega)
        exact hown
      rw [e2] at hnv
      have htr := fun W h => trim_any (.slice (some ⟨w.heap.size, 0, none⟩) a.length a.length) W O.length O rfl h hdg
      rw [e] at htr
      have HT := Lib.hid htr
      have HN := Lib.hid hnv
      have HN1 := Lib.hid hnv1
      have HBel := Lib.hid hbel
      clear htr e hnv1 hdg e1 e2 hdiv hown hnv a3 hbel hol
      go_wp2_with (go_at_call 136; refine (HT.out _ HN1.out).mono ?_; rintro e w2 ⟨v2, rfl, hn2, rfl⟩)
      go_ret2
      exact ⟨v2, _, rfl, hn2, HN.out, HBel.out⟩
    · obtain ⟨i, rfl⟩ : ∃ i, j = i + 1 := ⟨j - 1, by omega⟩
      have hi : i < a.length := by omega
      obtain ⟨bA, oA, rfl, hA1, hA2⟩ := a3 (by omega)
      have hci := (hbel.cell (p := ⟨bA, oA + i, none⟩) (by exact hA1)).trans (hA2 i hi)
      have hd := CA.out.1 a[i] (List.getElem_mem hi)
      have hst := hdiv.step CA.out.1 hi H0.out
      have hxl := Nt.DivAt.x_lt hd hdiv.lt
      have hol := hdiv.len
      obtain ⟨d, ed⟩ : ∃ d, d = a[i] := ⟨_, rfl⟩
      rw [← ed] at hci hd hst hxl
      have hq := Nat.div_lt_of_lt_mul hxl
      have hmd := Nat.mod_add_div (d + Nt.B * R) (Nt.val b)
      obtain ⟨X, eX⟩ : ∃ X, X = d + Nt.B * R := ⟨_, rfl⟩
      rw [← eX] at hst hxl hq hmd
      obtain ⟨q, eq⟩ : ∃ q, q = X / Nt.val b := ⟨_, rfl⟩
      rw [← eq] at hst hq hmd
      have hsub : X - Nt.val b * q = X % Nt.val b := by omega
      have hle : Nt.val b * q ≤ X := by omega
      have ei : ((i + 1 : Nat) : Int) - 1 = i := by omega
      rw [ei]
      have htd := Nt.digs_shift (R := R) hd
      rw [← eX] at htd
      have hxlen : (Nt.digs X).length ≤ b.length + 1 := by
        refine Nt.digs_len ?_
        have h1 := Nt.val_lt CB.out.1
        have h2 : Nt.val b * Nt.B < Nt.B ^ b.length * Nt.B := Nat.mul_lt_mul_of_pos_right h1 (by decide)
        rw [← Nat.pow_succ] at h2
        exact Nat.lt_trans hxl h2
      have hRlen := hnv.len
      have hRl : (Nt.digs R).length ≤ b.length := by
        refine Nt.digs_len ?_
        have h1 := Nt.val_lt CB.out.1
        have h2 := hdiv.lt
        omega
      have hdig := fun W v h1 h2 => digit_any v vb (Nt.digs X) b W h1 h2 (Nt.digs_canon X) CB.out sb H0.out (by rw [Nt.val_digs]; exact hxl)
      rw [Nt.val_digs, ← eq] at hdig
      have HDIG := Lib.hid hdig
      clear hdig
      have t8 := fun W v h => trim_any v W 1 [q] rfl h (Nt.dig_one hq)
      rw [Nt.digs_one hq] at t8
      have t9 := fun W v h1 h2 => times_any vb v b (Nt.digs q) W h1 h2 CB.out (Nt.digs_canon q) (by omega) (Nat.le_trans (Nt.digs_len (k := 1) (by rw [Nat.pow_one]; exact hq)) (by omega))
      rw [Nt.val_digs] at t9
      have t10 := fun W v v' h1 h2 => minus_any v v' (Nt.digs X) (Nt.digs (Nt.val b * q)) W h1 h2 (Nt.digs_canon _) (Nt.digs_canon _) (by rw [Nt.val_digs, Nt.val_digs]; exact hle)
      rw [Nt.val_digs, Nt.val_digs, hsub] at t10
      have T8 := Lib.hid t8
      have T9 := Lib.hid t9
      have T10 := Lib.hid t10
      clear t8 t9 t10
      have HNV := Lib.hid (hnv.below ((Below.refl _ wr).alloc (Nat.le_refl _) (.cells #[.int .u32 (d : Int)] 111)))
      have HOwn := Lib.hid hown
      have HST := Lib.hid hst
      have HXL := Lib.hid hxl
      have HTD := Lib.hid htd
      have HSub := Lib.hid hsub
      have HLe := Lib.hid hle
      have HOl := Lib.hid hol
      have HBel := Lib.hid hbel
      have HX := Lib.hid eX
      have HQ := Lib.hid eq
      have HD := Lib.hid hd
      have HQ2 := Lib.hid hq
      have hdcs : Nt.dig ([d] ++ Nt.digs R) := Nt.dig_append (Nt.dig_one hd) (Nt.digs_canon R).1
      have HDC := Lib.hid hdcs
      clear hnv hown hdiv hbel a3 hA2 hst hxl hmd hsub hle hol ed htd eX eq hd hq hdcs ei hRlen
      go_wp2_with (first | (at_builtin; refine wp_appN rfl _ _ rfl wr.heap.size _ [d] rfl (own_lit1 wr wr.heap.size (Nat.le_refl _) _ d rfl) _ (Nt.digs R) rfl HNV.out ?_ ?_ ?_; (simp; omega); (simp); intro v5 w5 ho5 hb5 hg5; have hB5 := Below.trans (HBel.out.alloc (Nat.le_of_lt hgt) (.cells #[.int .u32 (d : Int)] 111)) (hb5.mono (Nat.le_of_lt hgt))) | (go_at_call 136; refine (trim_hi _ _ _ _ rfl (ho5.nv (by simp; omega)) HDC.out).mono ?_; rintro e w6 ⟨v6, rfl, hn6, hh6, rfl⟩; have hi6 := hh6 _ ho5.hi; rw [show [d] ++ Nt.digs R = d :: Nt.digs R from rfl, HTD.out] at hn6; clear ho5 hh6) | (go_at_call 174; refine (HDIG.out _ _ hn6 (HB.out.below hB5)).mono ?_; rintro e w7 ⟨rfl, hb7⟩; have hB7 := hB5.trans (hb7.mono hB5.size); have hO7 := (((HOwn.out.alloc (.cells #[.int .u32 (d : Int)] 111)).laterB hb5 (by intro g hg; simp [Value.ownBlock] at hg; omega)).later hb7); have hc7 := hO7.cell' HOl.out (i := i) (by have := HOl.out; omega); have hf7 := hO7.frozen' HOl.out i; have hB7s := Own.below (d := .int .u32 (q : Int)) hB7 (Nat.le_refl _) i; have hL8 := (own_lit1 (w7.setCell ⟨w.heap.size, i, none⟩ (.int .u32 (q : Int))) w.heap.size hB7s.size (q : Int) q rfl).nv (by simp); rw [show (w7.setCell ⟨w.heap.size, i, none⟩ (.int .u32 (q : Int))).heap.size = w7.heap.size from by simp [World.setCell]] at hL8; have hB8 := hB7s.alloc hB7s.size (.cells #[.int .u32 (q : Int)] 111); have hn7 := ((hn6.below hb7).setCell (p := ⟨w.heap.size, i, none⟩) hi6 (by exact hgt) (.int .u32 (q : Int))).below ((Below.refl _ _).alloc (Nat.le_refl _) (.cells #[.int .u32 (q : Int)] 111)); have hO8 := (hO7.set' HOl.out i q rfl).alloc (.cells #[.int .u32 (q : Int)] 111); clear hO7 hn6 hb5 hg5) | (go_at_call 136; refine (T8.out _ _ hL8).mono ?_; rintro e w8 ⟨v8, rfl, hn8, rfl⟩) | (go_at_call 176; refine (T9.out _ _ (HB.out.below hB8) hn8).mono ?_; rintro e w9 ⟨v9, rfl, hn9, hb9⟩; have hn7' := hn7.below hb9; have hO9 := hO8.later hb9; have hB9 := hB8.trans (hb9.mono hB8.size); clear hn7 hO8 hL8) | (go_at_call 175; refine (T10.out _ _ _ hn7' hn9).mono ?_; rintro e w10 ⟨v10, rfl, hn10, hb10⟩; have hO10 := hO9.later hb10; have hB10 := hB9.trans (hb10.mono hB9.size)))
      go_roundw
      case rel =>
        have hsz : w.heap.size < w10.heap.size := by
          have z1 := hB7.size
          have z2 := hb9.size
          have z3 := hb10.size
          simp [World.setCell] at z2
          omega
        exact ⟨i, X % Nt.val b, _, rfl, by omega, hn10, hO10, HST.out, hB10, hsz⟩
      case measure => simp [intOf]
end Go.Proofs.YtcnlonaighlmbaaGreatDoor

namespace Go.Proofs.YtcnlonaighlmbaaGreatDoor
open Go.RowKit

namespace Nt
theorem digs_mono {a b : Nat} (h : a ≤ b) : (digs a).length ≤ (digs b).length := by
  rcases Nat.lt_or_ge (digs b).length (digs a).length with hl | hl
  · have := canon_len_lt (digs_canon b) (digs_canon a) hl
    rw [val_digs, val_digs] at this
    omega
  · exact hl
theorem digs_eq_nil {a : Nat} : digs a = [] ↔ a = 0 := by
  constructor
  · intro h; have := val_digs a; rw [h] at this; simpa [val] using this.symm
  · rintro rfl; exact digs_zero
end Nt

theorem zero_v (v : Value) (l : List Nat) (w : World) (h : Nv w v l) :
    Calls Tryz.prog 137 #[v] w fun e w' => e = .returned (.bool ((l.length : Int) == 0)) ∧ w = w' := by
  obtain ⟨A, c, rfl, _⟩ := h.ex
  exact zero_any A l.length c w

set_option maxRecDepth 100000 in
set_option maxHeartbeats 1000000 in
theorem common_any (va vb : Value) (a b : Nat) (w : World) (ha : Nv w va (Nt.digs a)) (hb : Nv w vb (Nt.digs b)) (sa : (Nt.digs a).length ≤ 900000) (sb : (Nt.digs b).length ≤ 900000) :
    Calls Tryz.prog 90 #[va, vb] w fun e w' => ∃ v, e = .returned v ∧ Nv w' v (Nt.digs (Nat.gcd a b)) ∧ Below w.heap.size w w' := by
  have HA := Lib.hid ha
  have HB := Lib.hid hb
  clear ha hb
  go_enter Tryz.func90, Tryz.ntmps90
  go_wp2
  go_loopg [0, 1] b (fun g s0 s1 wr => ∃ x : Nat, Nv wr s0 (Nt.digs x) ∧ Nv wr s1 (Nt.digs g) ∧ Nat.gcd x g = Nat.gcd a b ∧ (Nt.digs x).length ≤ 900000 ∧ (Nt.digs g).length ≤ 900000 ∧ Below w.heap.size w wr)
  case atStart => exact ⟨a, HA.out, HB.out, rfl, sa, sb, Below.refl _ _⟩
  case round =>
    obtain ⟨x, h1, h2, h3, h4, h5, h6⟩ := hrel
    have H1 := Lib.hid h1
    have H2 := Lib.hid h2
    have H3 := Lib.hid h3
    have H6 := Lib.hid h6
    clear h1 h2 h3 h6
    rcases Nat.eq_zero_or_pos gk with hz | hpos
    · have hl : (((Nt.digs gk).length : Int) == 0) = true := by rw [hz, Nt.digs_zero]; rfl
      have e : x = Nat.gcd a b := by have := H3.out; rwa [hz, Nat.gcd_zero_right] at this
      have E := Lib.hid e
      clear hz e
      go_wp2_with (go_at_call 137; refine (zero_v _ _ _ H2.out).mono ?_; rintro e w2 ⟨rfl, rfl⟩)
      go_ret
      exact ⟨_, rfl, by rw [← E.out]; exact H1.out, H6.out⟩
    · have hl : (((Nt.digs gk).length : Int) == 0) = false := by
        rw [beq_eq_false_iff_ne]
        intro h
        have : (Nt.digs gk) = [] := List.eq_nil_of_length_eq_zero (by omega)
        rw [Nt.digs_eq_nil] at this
        omega
      have hd := fun W v v' h1 h2 => divide_any v v' (Nt.digs x) (Nt.digs gk) W h1 h2 (Nt.digs_canon _) (Nt.digs_canon _) h4 h5 (by rw [Nt.val_digs]; exact hpos)
      rw [Nt.val_digs, Nt.val_digs] at hd
      have HD := Lib.hid hd
      have hlt := Nat.mod_lt x hpos
      have hm := Nt.digs_mono (Nat.le_of_lt hlt)
      have e : Nat.gcd gk (x % gk) = Nat.gcd a b := by rw [← H3.out, Nat.gcd_comm x gk, Nat.gcd_rec gk x, Nat.gcd_comm]
      have E := Lib.hid e
      clear hd e
      go_wp2_with (first | (go_at_call 137; refine (zero_v _ _ _ H2.out).mono ?_; rintro e w2 ⟨rfl, rfl⟩) | (go_at_call 138; refine (HD.out _ _ _ H1.out H2.out).mono ?_; rintro e w3 ⟨v1, v2, rfl, hn1, hn2, hb3⟩))
      go_roundg (x % gk)
      case measure => exact hlt
      case rel => exact ⟨gk, H2.out.below hb3, hn2, E.out, h5, by omega, below_tr H6.out hb3⟩
end Go.Proofs.YtcnlonaighlmbaaGreatDoor
