/- Contracts of exact's nat: zero, one, trim, compare. -/
import Derived.Test.YtigeipjkcidleaaGreatDoorNatM
import Derived.Deep.QuietTactic
import Derived.BigQuiet
namespace Go.Proofs.YtigeipjkcidleaaGreatDoor
open Go.RowKit

theorem zero_any (A : Option Addr) (n c : Nat) (w : World) :
    Calls Tryz.prog 128 #[.slice A n c] w fun e w' => e = .returned (.bool ((n : Int) == 0)) ∧ w = w' := by
  go_enter Tryz.func128, Tryz.ntmps128
  go_wp2
  go_ret
  exact ⟨rfl, rfl⟩

/-- one tells whether a number is 1. -/
theorem one_any (v : Value) (l : List Nat) (w : World) (h : Nv w v l) (hd : Nt.dig l) :
    Calls Tryz.prog 166 #[v] w fun e w' => e = .returned (.bool (decide (l = [1]))) ∧ w = w' := by
  obtain ⟨A, c, rfl, h1, h2, h0, h3⟩ := h.ex
  have H0 := Lib.hid h0
  clear h h0
  by_cases hl : l.length = 1
  · obtain ⟨b, o, rfl, hb, hc⟩ := h3 (by omega)
    match l, hl with
    | [d], _ =>
      have hc0 := hc 0 (by simp)
      have hd0 := hd d (by simp)
      simp only [Nat.add_zero, List.getElem_cons_zero] at hc0
      clear hc h3 hd
      by_cases hd1 : d = 1
      · subst hd1
        go_enter Tryz.func166, Tryz.ntmps166
        go_wp2
        go_ret
        exact ⟨rfl, rfl⟩
      · have hne : ((d : Int) == 1) = false := by rw [beq_eq_false_iff_ne]; omega
        go_enter Tryz.func166, Tryz.ntmps166
        go_wp2
        go_ret
        exact ⟨ret_bool (by simp [hd1]), rfl⟩
  · have hne : ((l.length : Int) == 1) = false := by rw [beq_eq_false_iff_ne]; omega
    have hr : decide (l = [1]) = false := by
      rw [decide_eq_false_iff_not]; rintro rfl; simp at hl
    rw [hr]
    clear hr h3
    go_enter Tryz.func166, Tryz.ntmps166
    go_wp2
    go_ret
    exact ⟨rfl, rfl⟩

theorem trim_hi (v : Value) (w : World) : ∀ (k : Nat) (l : List Nat), l.length = k → Nv w v l → Nt.dig l →
    Calls Tryz.prog 133 #[v] w fun e w' => ∃ v', e = .returned v' ∧ Nv w v' (Nt.trimL l) ∧ (∀ B, Hi B v → Hi B v') ∧ w = w' := by
  intro k l hk h hd
  obtain ⟨A, c, rfl, h1, h2, h0, h3⟩ := h.ex
  have H0 := Lib.hid h0
  clear h h0
  have HD := Lib.hid hd
  clear hd hk
  go_enter Tryz.func133, Tryz.ntmps133
  go_wp2
  go_loop [0] (fun s => ∃ m : Nat, m ≤ l.length ∧ s = .slice A m c ∧ Nt.trimL (l.take m) = Nt.trimL l) (fun s => match s with | .slice _ m _ => m | _ => 0)
  case atStart => exact ⟨l.length, Nat.le_refl _, rfl, by rw [List.take_length]⟩
  case round =>
    obtain ⟨m, hm, rfl, ht⟩ := hrel
    have HT := Lib.hid ht
    clear ht
    rcases Nat.eq_zero_or_pos m with rfl | hpos
    · go_wp2
      go_ret
      refine ⟨_, rfl, ⟨A, c, ?_, ?_, ?_, H0.out, ?_⟩, ?_, rfl⟩
      · rw [← HT.out]; rfl
      · rw [← HT.out]; exact Nat.zero_le _
      · rw [← HT.out]; exact Nat.zero_le _
      · rw [← HT.out]; exact Cells.nil
      · intro B hB ad n c' e
        injection e with e1 e2 e3
        subst e1
        exact hB _ _ _ rfl
    · obtain ⟨j, rfl⟩ : ∃ j, m = j + 1 := ⟨m - 1, by omega⟩
      obtain ⟨b, o, rfl, hb, hc⟩ := h3 (by omega)
      have hcj := hc j (by omega)
      have hlast : l.take (j + 1) = l.take j ++ [l[j]] := List.take_succ_eq_append_getElem (by omega)
      have HC := Lib.hid hc
      have HL := Lib.hid hlast
      clear hc hlast h3
      by_cases hz : l[j] = 0
      · have hz' : (((l[j] : Nat) : Int) == 0) = true := by rw [hz]; rfl
        have HZ := Lib.hid hz
        clear hz
        go_wp2
        go_round
        case rel =>
          refine ⟨j, by omega, by go_num, ?_⟩
          rw [← HT.out, HL.out, HZ.out, Nt.trimL_zero]
        case measure => simp
      · have hz' : (((l[j] : Nat) : Int) == 0) = false := by rw [beq_eq_false_iff_ne]; omega
        have HZ := Lib.hid hz
        clear hz
        go_wp2
        go_ret
        have e : l.take (j + 1) = Nt.trimL l := by rw [← HT.out, HL.out, Nt.trimL_pos _ HZ.out]
        have el : (Nt.trimL l).length = j + 1 := by rw [← e]; simp; omega
        refine ⟨_, rfl, ⟨some ⟨b, o, none⟩, c, ?_, ?_, ?_, (fun h => by cases h), ?_⟩, ?_, rfl⟩
        · rw [el]; go_num
        · rw [el]; omega
        · rw [el]; omega
        · intro _
          refine ⟨b, o, rfl, hb, fun i hi => ?_⟩
          rw [el] at hi
          rw [HC.out i (by omega)]
          simp [← e]
        · intro B hB ad n c' e
          injection e with e1 e2 e3
          injection e1 with e1
          subst e1
          exact hB _ _ _ rfl
theorem trim_any (v : Value) (w : World) (k : Nat) (l : List Nat) (hk : l.length = k) (h : Nv w v l) (hd : Nt.dig l) :
    Calls Tryz.prog 133 #[v] w fun e w' => ∃ v', e = .returned v' ∧ Nv w v' (Nt.trimL l) ∧ w = w' :=
  (trim_hi v w k l hk h hd).mono fun _ _ ⟨v', h1, h2, _, h3⟩ => ⟨v', h1, h2, h3⟩
end Go.Proofs.YtigeipjkcidleaaGreatDoor
