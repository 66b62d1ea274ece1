/- The contract of exact's nat compare. -/
import Derived.Test.YtigeipjkcidleaaGreatDoorNatA
namespace Go.Proofs.YtigeipjkcidleaaGreatDoor
open Go.RowKit

namespace Nt
/-- How two numbers compare. -/
def Cmp (a b : Nat) (r : Int) : Prop := (r < 0 ∧ a < b) ∨ (r = 0 ∧ a = b) ∨ (0 < r ∧ b < a)
theorem val_split (l : List Nat) (j : Nat) (h : j < l.length) : val l = val (l.take j) + B ^ j * (l[j] + B * val (l.drop (j + 1))) := by
  have e : l = l.take j ++ l[j] :: l.drop (j + 1) := by rw [← List.drop_eq_getElem_cons h, List.take_append_drop]
  have h2 := val_append (l.take j) (l[j] :: l.drop (j + 1))
  rw [← e] at h2
  rw [h2, val_cons, List.length_take, Nat.min_eq_left (by omega)]
theorem val_lt_at {a b : List Nat} (ha : dig a) (j : Nat) (h1 : j < a.length) (h2 : j < b.length) (hd : a.drop (j + 1) = b.drop (j + 1)) (hlt : a[j] < b[j]) : val a < val b := by
  rw [val_split a j h1, val_split b j h2, hd]
  have h3 := val_lt (dig_take ha j)
  rw [List.length_take, Nat.min_eq_left (by omega)] at h3
  have h4 : B ^ j * (a[j] + B * val (b.drop (j + 1)) + 1) ≤ B ^ j * (b[j] + B * val (b.drop (j + 1))) := Nat.mul_le_mul_left _ (by omega)
  rw [Nat.mul_succ] at h4
  omega
end Nt

def CmpRet (a b : Nat) (w : World) (e : Ending) (w' : World) : Prop := ∃ (r : Int) (n : Nat), e = .returned (.int .i64 r) ∧ Nt.Cmp a b r ∧ -1099511627776 ≤ r ∧ r ≤ 1099511627776 ∧ w.drewN n = w'

theorem drewN_two (w : World) (a b : Nat) : w.drewN (a + b) = (w.drewN a).drewN b := by simp [World.drewN, Nat.add_assoc]
theorem drewN_three (w : World) (a b c : Nat) : w.drewN (a + (b + c)) = ((w.drewN a).drewN b).drewN c := by rw [drewN_two, drewN_two]

theorem compare_any (va vb : Value) (la lb : List Nat) (w : World) (ha : Nv w va la) (hb : Nv w vb lb) (ca : Nt.canon la) (cb : Nt.canon lb) :
    Calls Tryz.prog 79 #[va, vb] w (CmpRet (Nt.val la) (Nt.val lb) w) := by
  obtain ⟨A, c, rfl, a1, a2, a0, a3⟩ := ha.ex
  obtain ⟨A', c', rfl, b1, b2, b0, b3⟩ := hb.ex
  clear ha hb a0 b0
  have CA := Lib.hid ca
  have CB := Lib.hid cb
  clear ca cb
  by_cases hl : la.length = lb.length
  case neg =>
    have hne : ((la.length : Int) != lb.length) = true := by rw [bne_iff_ne]; omega
    have hcmp : Nt.Cmp (Nt.val la) (Nt.val lb) (la.length - lb.length) := by
      rcases Nat.lt_or_ge la.length lb.length with h | h
      · exact .inl ⟨by omega, Nt.canon_len_lt CA.out CB.out h⟩
      · exact .inr (.inr ⟨by omega, Nt.canon_len_lt CB.out CA.out (by omega)⟩)
    have HC := Lib.hid hcmp
    clear hcmp hl a3 b3
    go_enter Tryz.func79, Tryz.ntmps79
    go_wp2
    go_ret
    exact ⟨_, 0, rfl, HC.out, by omega, by omega, rfl⟩
  case pos =>
    have hne : ((la.length : Int) != lb.length) = false := by rw [hl]; simp
    have HL := Lib.hid hl
    have hll : la.length ≤ lb.length := by omega
    clear hl
    go_enter Tryz.func79, Tryz.ntmps79
    go_wp2
    go_loopw [5] (fun s wr => ∃ j n : Nat, j ≤ la.length ∧ s = .int .i64 ((j : Int) - 1) ∧ la.drop j = lb.drop j ∧ wr = w.drewN n) (fun s _ => (intOf s + 1).toNat)
    case atStart =>
      refine ⟨la.length, 0, Nat.le_refl _, rfl, ?_, rfl⟩
      rw [List.drop_length, HL.out, List.drop_length]
    case round =>
      obtain ⟨j, n, hj, rfl, hd, rfl⟩ := hrel
      have HDr := Lib.hid hd
      clear hd
      rcases Nat.eq_zero_or_pos j with rfl | hpos
      · have e : la = lb := by have := HDr.out; simpa using this
        have HE := Lib.hid e
        clear e
        go_wp2
        go_ret
        exact ⟨_, n, rfl, .inr (.inl ⟨rfl, by rw [HE.out]⟩), by omega, by omega, rfl⟩
      · obtain ⟨i, rfl⟩ : ∃ i, j = i + 1 := ⟨j - 1, by omega⟩
        obtain ⟨b, o, rfl, hb, hc⟩ := a3 (by omega)
        obtain ⟨b', o', rfl, hb', hc'⟩ := b3 (by omega)
        have hi1 : i < la.length := by omega
        have hi2 : i < lb.length := by omega
        have c1 := hc i hi1
        have c2 := hc' i hi2
        have ei : ((i + 1 : Nat) : Int) - 1 = i := by omega
        rw [ei]
        clear hc hc' a3 b3 ei
        rcases Nat.lt_trichotomy la[i] lb[i] with hlt | heq | hgt
        · have hv := Nt.val_lt_at CA.out.1 i hi1 hi2 HDr.out hlt
          have hlt' : ((la[i] : Nat) : Int) < lb[i] := by omega
          have hne' : (((la[i] : Nat) : Int) != lb[i]) = true := by rw [bne_iff_ne]; omega
          have HV := Lib.hid hv
          clear hv hlt
          go_wp2
          go_quiet (fail)
          go_wp2
          go_quiet (fail)
          go_wp2
          go_ret
          exact ⟨_, _, rfl, .inl ⟨by decide, HV.out⟩, by omega, by omega, drewN_three _ _ _ _⟩
        · have heq' : (((la[i] : Nat) : Int) != lb[i]) = false := by rw [heq]; simp
          have hd2 : la.drop i = lb.drop i := by
            rw [List.drop_eq_getElem_cons hi1, List.drop_eq_getElem_cons hi2, heq, HDr.out]
          have HD2 := Lib.hid hd2
          clear hd2 heq
          go_wp2
          go_quiet (fail)
          go_wp2
          go_roundw
          case rel => exact ⟨i, _, by omega, rfl, HD2.out, rfl⟩
          case measure => simp [intOf]
        · have hv := Nt.val_lt_at CB.out.1 i hi2 hi1 HDr.out.symm hgt
          have hgt' : ¬ ((la[i] : Nat) : Int) < lb[i] := by omega
          have hne' : (((la[i] : Nat) : Int) != lb[i]) = true := by rw [bne_iff_ne]; omega
          have HV := Lib.hid hv
          clear hv hgt
          go_wp2
          go_quiet (fail)
          go_wp2
          go_quiet (fail)
          go_wp2
          go_ret
          exact ⟨_, _, rfl, .inr (.inr ⟨by decide, HV.out⟩), by omega, by omega, drewN_three _ _ _ _⟩
end Go.Proofs.YtigeipjkcidleaaGreatDoor
