/- The contract of exact's nat plus. -/
import Derived.Test.YtigeipjkcidleaaGreatDoorNatD
import Derived.Deep.DeepCutAuto
namespace Go.Proofs.YtigeipjkcidleaaGreatDoor
open Go.RowKit

namespace Nt
theorem canon_of_big {l : List Nat} (hd : dig l) (h : l = [] ∨ B ^ (l.length - 1) ≤ val l) : canon l := by
  refine ⟨hd, fun hl => ?_⟩
  rcases List.eq_nil_or_concat l with rfl | ⟨a, d, rfl⟩
  · simp at hl
  · rw [List.concat_eq_append] at *
    have hd0 : d = 0 := by simpa using hl
    subst hd0
    have h1 := val_lt (fun x hx => hd x (List.mem_append_left _ hx) : dig a)
    rcases h with h | h
    · simp at h
    · rw [val_snoc, List.length_append, List.length_singleton, Nat.add_sub_cancel] at h
      omega

/-- The digit of a list at a place, 0 behind its end. -/
def at0 (l : List Nat) (k : Nat) : Nat := l.getD k 0
theorem at0_lt {l : List Nat} {k : Nat} (h : k < l.length) : at0 l k = l[k] := by simp [at0, List.getD, h]
theorem at0_ge {l : List Nat} {k : Nat} (h : l.length ≤ k) : at0 l k = 0 := by simp [at0, List.getD, h]
theorem at0_dig {l : List Nat} (h : dig l) (k : Nat) : at0 l k < B := by
  rcases Nat.lt_or_ge k l.length with hk | hk
  · rw [at0_lt hk]; exact h _ (List.getElem_mem hk)
  · rw [at0_ge hk]; decide
theorem val_take_at0 (l : List Nat) (k : Nat) : val (l.take (k + 1)) = val (l.take k) + B ^ k * at0 l k := by
  rcases Nat.lt_or_ge k l.length with hk | hk
  · rw [at0_lt hk]; exact val_take_succ l k hk
  · rw [at0_ge hk, take_of_ge l k hk, take_of_ge l (k + 1) (by omega)]; simp

structure SumAt (la lb O : List Nat) (k c : Nat) : Prop where
  len : O.length = k
  dg : dig O
  c1 : c ≤ 1
  eq : val (la.take k) + val (lb.take k) = val O + c * B ^ k
  big : k = 0 ∨ B ^ (k - 1) ≤ val la + val lb
  fin : la.length < k → lb.length < k → c = 0
theorem SumAt.start (la lb : List Nat) : SumAt la lb [] 0 0 := ⟨rfl, dig_nil, by omega, by simp [val], .inl rfl, fun _ _ => rfl⟩
theorem val_take_le : ∀ (l : List Nat) (k : Nat), val (l.take k) ≤ val l := fun l k => by
  have h := val_append (l.take k) (l.drop k)
  rw [List.take_append_drop] at h
  omega
theorem SumAt.step {la lb O : List Nat} {k c : Nat} (h : SumAt la lb O k c) (ca : canon la) (cb : canon lb) (hk : k < la.length ∨ k < lb.length ∨ 0 < c) :
    SumAt la lb (O ++ [(c + at0 la k + at0 lb k) % B]) (k + 1) ((c + at0 la k + at0 lb k) / B) := by
  have h1 := at0_dig ca.1 k
  have h2 := at0_dig cb.1 k
  have h3 := h.c1
  have hm := Nat.mod_lt (c + at0 la k + at0 lb k) (by decide : B > 0)
  have hdm := Nat.mod_add_div (c + at0 la k + at0 lb k) B
  have hq : (c + at0 la k + at0 lb k) / B ≤ 1 := by
    have : (c + at0 la k + at0 lb k) < 2 * B := by omega
    have := Nat.div_lt_of_lt_mul (by rw [Nat.mul_comm] at this; exact this : c + at0 la k + at0 lb k < B * 2)
    omega
  refine ⟨by rw [List.length_append, h.len]; rfl, dig_append h.dg (dig_one hm), hq, ?_, .inr ?_, ?_⟩
  · rw [val_take_at0, val_take_at0, val_snoc, h.len, Nat.pow_succ]
    have e := h.eq
    have e2 : B ^ k * (c + at0 la k + at0 lb k) = B ^ k * ((c + at0 la k + at0 lb k) % B) + (c + at0 la k + at0 lb k) / B * (B ^ k * B) := by
      conv => lhs; rw [← hdm]
      rw [Nat.mul_add]
      congr 1
      rw [Nat.mul_comm _ (B ^ k * B), Nat.mul_assoc]
    rw [Nat.mul_add, Nat.mul_add] at e2
    have e3 : c * B ^ k = B ^ k * c := Nat.mul_comm _ _
    omega
  · rw [Nat.add_sub_cancel]
    rcases hk with hk | hk | hk
    · have := canon_ge ca (by rintro rfl; simp at hk)
      have h5 : B ^ k ≤ B ^ (la.length - 1) := Nat.pow_le_pow_right (by decide) (by omega)
      omega
    · have := canon_ge cb (by rintro rfl; simp at hk)
      have h5 : B ^ k ≤ B ^ (lb.length - 1) := Nat.pow_le_pow_right (by decide) (by omega)
      omega
    · have e := h.eq
      have : c = 1 := by omega
      subst this
      have := val_take_le la k
      have := val_take_le lb k
      omega
  · intro g1 g2
    rw [at0_ge (by omega : la.length ≤ k), at0_ge (by omega : lb.length ≤ k)]
    apply Nat.div_eq_of_lt
    have : (1 : Nat) < B := by decide
    omega
theorem SumAt.done {la lb O : List Nat} {k : Nat} (h : SumAt la lb O k 0) (ha : la.length ≤ k) (hb : lb.length ≤ k) : O = digs (val la + val lb) := by
  have e := h.eq
  rw [take_of_ge la k ha, take_of_ge lb k hb, Nat.zero_mul, Nat.add_zero] at e
  have hc : canon O := by
    refine canon_of_big h.dg ?_
    rcases h.big with h0 | h0
    · left; have := h.len; rw [h0] at this; exact List.eq_nil_of_length_eq_zero this
    · right; rw [h.len, ← e]; exact h0
  rw [e, digs_val hc]
end Nt

set_option maxRecDepth 100000 in
set_option maxHeartbeats 1000000 in
theorem plus_any (va vb : Value) (la lb : List Nat) (w : World) (ha : Nv w va la) (hb : Nv w vb lb) (ca : Nt.canon la) (cb : Nt.canon lb) (sa : la.length ≤ 1000000) (sb : lb.length ≤ 1000000) :
    Calls Tryz.prog 78 #[va, vb] w fun e w' => ∃ v, e = .returned v ∧ Nv w' v (Nt.digs (Nt.val la + Nt.val lb)) ∧ Below w.heap.size w w' := by
  obtain ⟨A, c, rfl, a1, a2, a0, a3⟩ := ha.ex
  obtain ⟨A', c', rfl, b1, b2, b0, b3⟩ := hb.ex
  obtain ⟨mx, hmx⟩ : ∃ mx, mx = max la.length lb.length := ⟨_, rfl⟩
  have m1 : la.length ≤ mx := by omega
  have m2 : lb.length ≤ mx := by omega
  have m3 : mx ≤ 1000000 := by omega
  have HMX : ((mx : Nat) : Int) = max (la.length : Int) lb.length := by omega
  have HM := Lib.hid HMX
  have CA := Lib.hid ca
  have CB := Lib.hid cb
  clear ha hb ca cb a0 b0 hmx HMX
  go_enter Tryz.func78, Tryz.ntmps78
  go_wp2_with (at_make; refine wp_make_room rfl _ _ rfl w.heap.size _ (mx + 1) rfl rfl ?_ ?_ (Nat.le_refl _) ?_; (have := HM.out; omega); (omega); intro w1 ho1 hg1)
  all_goals
    first | (rename la.length < lb.length => hh; clear hh) | (rename ¬ la.length < lb.length => hh; clear hh)
    have HO := Lib.hid ho1
    have HB1 := Lib.hid (below_made (Below.refl w.heap.size w) (Nat.le_refl _) hg1)
    clear ho1 hg1
    go_loopw [5, 6, 7] (fun s5 s6 s7 wr => ∃ (k cr : Nat) (O : List Nat), s7 = .int .i64 k ∧ s6 = .int .u32 cr ∧ k ≤ mx + 1 ∧ (k = mx + 1 → cr = 0) ∧ Own wr w.heap.size s5 O ∧ Nt.SumAt la lb O k cr ∧ Below w.heap.size w wr) (fun _ _ s7 _ => mx + 1 - (intOf s7).toNat)
    case atStart => exact ⟨0, 0, [], rfl, rfl, by omega, fun _ => rfl, HO.out, Nt.SumAt.start la lb, HB1.out⟩
    case round =>
      obtain ⟨k, cr, O, rfl, rfl, hk, hkf, hown, hsum, hbel⟩ := hrel
      have hc1 := hsum.c1
      have hOl := hsum.len
      have HS := Lib.hid hsum
      have HBel := Lib.hid hbel
      have HOwn := Lib.hid hown
      have HKF := Lib.hid hkf
      have hbz := hbel.size
      have d1 := Nt.at0_dig CA.out.1 k
      have d2 := Nt.at0_dig CB.out.1 k
      have hst : k < la.length ∨ k < lb.length ∨ 0 < cr → Nt.SumAt la lb (O ++ [(cr + Nt.at0 la k + Nt.at0 lb k) % Nt.B]) (k + 1) ((cr + Nt.at0 la k + Nt.at0 lb k) / Nt.B) := fun h => HS.out.step CA.out CB.out h
      have HST := Lib.hid hst
      have HOl := Lib.hid hOl
      clear hsum hbel hown hkf hst hOl
      unfold Nt.B at d1 d2
      by_cases ka : k < la.length
      · obtain ⟨b, o, rfl, hb1, hb2⟩ := a3 (by omega)
        have ca := (HBel.out.cell (p := ⟨b, o + k, none⟩) (by exact hb1)).trans (hb2 k ka)
        have ea := Nt.at0_lt ka
        rw [← ea] at ca
        have HEA := Lib.hid ea
        clear hb2 ea
        generalize Nt.at0 la k = x at *
        by_cases kb : k < lb.length
        · obtain ⟨b', o', rfl, hb1', hb2'⟩ := b3 (by omega)
          have cb := (HBel.out.cell (p := ⟨b', o' + k, none⟩) (by exact hb1')).trans (hb2' k kb)
          have eb := Nt.at0_lt kb
          rw [← eb] at cb
          have HEB := Lib.hid eb
          clear hb2' eb a3 b3
          generalize Nt.at0 lb k = y at *
          go_wp2_with (at_builtin; refine wp_app1 rfl _ _ rfl w.heap.size _ O rfl HOwn.out _ ((cr + x + y) % 1000000000) ?_ rfl ?_ hbz ?_; (omega); (have := HOl.out; omega); intro v2 w2 ho2 hb2 _)
          go_roundw
          case rel => exact ⟨k + 1, (cr + x + y) / 1000000000, _, by go_num, by go_num, by omega, by omega, ho2, HST.out (.inl ka), HBel.out.trans hb2⟩
          case measure => simp [intOf]; omega
        · have eb := Nt.at0_ge (l := lb) (k := k) (by omega)
          have HEB := Lib.hid eb
          clear eb a3 b3 d2
          go_wp2_with (at_builtin; refine wp_app1 rfl _ _ rfl w.heap.size _ O rfl HOwn.out _ ((cr + x) % 1000000000) ?_ rfl ?_ hbz ?_; (omega); (have := HOl.out; omega); intro v2 w2 ho2 hb2 _)
          go_roundw
          case rel =>
            have hs := HST.out (.inl ka)
            rw [HEB.out, Nat.add_zero] at hs
            exact ⟨k + 1, (cr + x) / 1000000000, _, by go_num, by go_num, by omega, by omega, ho2, hs, HBel.out.trans hb2⟩
          case measure => simp [intOf]; omega
      · have ea := Nt.at0_ge (l := la) (k := k) (by omega)
        have HEA := Lib.hid ea
        clear ea d1 a3
        by_cases kb : k < lb.length
        · obtain ⟨b', o', rfl, hb1', hb2'⟩ := b3 (by omega)
          have cb := (HBel.out.cell (p := ⟨b', o' + k, none⟩) (by exact hb1')).trans (hb2' k kb)
          have eb := Nt.at0_lt kb
          rw [← eb] at cb
          have HEB := Lib.hid eb
          clear hb2' eb b3
          generalize Nt.at0 lb k = y at *
          go_wp2_with (at_builtin; refine wp_app1 rfl _ _ rfl w.heap.size _ O rfl HOwn.out _ ((cr + y) % 1000000000) ?_ rfl ?_ hbz ?_; (omega); (have := HOl.out; omega); intro v2 w2 ho2 hb2 _)
          go_roundw
          case rel =>
            have hs := HST.out (.inr (.inl kb))
            rw [HEA.out, Nat.add_zero] at hs
            exact ⟨k + 1, (cr + y) / 1000000000, _, by go_num, by go_num, by omega, by omega, ho2, hs, HBel.out.trans hb2⟩
          case measure => simp [intOf]; omega
        · have eb := Nt.at0_ge (l := lb) (k := k) (by omega)
          have HEB := Lib.hid eb
          clear eb d2 b3
          rcases Nat.eq_zero_or_pos cr with rfl | hpos
          · have hz := HS.out.done (by omega) (by omega)
            have hnv := HOwn.out.nv (by have := HOl.out; omega)
            rw [hz] at hnv
            have HN := Lib.hid hnv
            clear hz hnv
            go_wp2
            go_ret
            exact ⟨_, rfl, HN.out, HBel.out⟩
          · have hp' : (0 : Int) < cr := by omega
            have hk2 : k ≤ mx := by
              rcases Nat.lt_or_ge mx k with h | h
              · have := HKF.out (by omega); omega
              · exact h
            go_wp2_with (at_builtin; refine wp_app1 rfl _ _ rfl w.heap.size _ O rfl HOwn.out _ ((cr) % 1000000000) ?_ rfl ?_ hbz ?_; (omega); (have := HOl.out; omega); intro v2 w2 ho2 hb2 _)
            go_roundw
            case rel =>
              have hs := HST.out (.inr (.inr hpos))
              rw [HEA.out, HEB.out, Nat.add_zero, Nat.add_zero] at hs
              exact ⟨k + 1, (cr) / 1000000000, _, by go_num, by go_num, by omega, by omega, ho2, hs, HBel.out.trans hb2⟩
            case measure => simp [intOf]; omega
end Go.Proofs.YtigeipjkcidleaaGreatDoor
