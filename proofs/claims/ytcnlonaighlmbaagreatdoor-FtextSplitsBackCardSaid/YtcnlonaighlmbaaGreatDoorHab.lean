/- Contracts of exact's nat: zero, one, trim, compare. -/
import Derived.Test.YtcnlonaighlmbaaGreatDoorNatM
import Derived.Deep.QuietTactic
import Derived.BigQuiet
set_option linter.unusedSimpArgs false
set_option linter.unusedVariables false
namespace Go.Proofs.YtcnlonaighlmbaaGreatDoor
open Go.RowKit

theorem zero_any (A : Option Addr) (n c : Nat) (w : World) :
    Calls Tryz.prog 137 #[.slice A n c] w fun e w' => e = .returned (.bool ((n : Int) == 0)) ∧ w = w' := by
  go_enter Tryz.func137, Tryz.ntmps137
  go_wp2
  go_ret
  exact ⟨rfl, rfl⟩

/-- one tells whether a number is 1. -/
theorem one_any (v : Value) (l : List Nat) (w : World) (h : Nv w v l) (hd : Nt.dig l) :
    Calls Tryz.prog 91 #[v] w fun e w' => e = .returned (.bool (decide (l = [1]))) ∧ w = w' := by
  obtain ⟨A, c, rfl, h1, h2, h0, h3⟩ := h.ex
  have H0 := Lib.hid h0
  clear h h0
  by_cases hl : l.length = 1
  · obtain ⟨b, o, rfl, hb, hc⟩ := h3 (by omega)
    match l, hl with
    | [d], _ =>
      have hc0 := hc 0 (by simp)
      have hd0 := hd d (by simp)
      simp only [Nat.add_zero, List.getElem_cons_zero] at hc0
      clear hc h3 hd
      by_cases hd1 : d = 1
      · subst hd1
        go_enter Tryz.func91, Tryz.ntmps91
        go_wp2
        go_ret
        exact ⟨rfl, rfl⟩
      · have hne : ((d : Int) == 1) = false := by rw [beq_eq_false_iff_ne]; omega
        go_enter Tryz.func91, Tryz.ntmps91
        go_wp2
        go_ret
        exact ⟨ret_bool (by simp [hd1]), rfl⟩
  · have hne : ((l.length : Int) == 1) = false := by rw [beq_eq_false_iff_ne]; omega
    have hr : decide (l = [1]) = false := by
      rw [decide_eq_false_iff_not]; rintro rfl; simp at hl
    rw [hr]
    clear hr h3
    go_enter Tryz.func91, Tryz.ntmps91
    go_wp2
    go_ret
    exact ⟨rfl, rfl⟩

theorem trim_hi (v : Value) (w : World) : ∀ (k : Nat) (l : List Nat), l.length = k → Nv w v l → Nt.dig l →
    Calls Tryz.prog 136 #[v] w fun e w' => ∃ v', e = .returned v' ∧ Nv w v' (Nt.trimL l) ∧ (∀ B, Hi B v → Hi B v') ∧ w = w' := by
  intro k l hk h hd
  obtain ⟨A, c, rfl, h1, h2, h0, h3⟩ := h.ex
  have H0 := Lib.hid h0
  clear h h0
  have HD := Lib.hid hd
  clear hd hk
  go_enter Tryz.func136, Tryz.ntmps136
  go_wp2
  go_loop [0] (fun s => ∃ m : Nat, m ≤ l.length ∧ s = .slice A m c ∧ Nt.trimL (l.take m) = Nt.trimL l) (fun s => match s with | .slice _ m _ => m | _ => 0)
  case atStart => exact ⟨l.length, Nat.le_refl _, rfl, by rw [List.take_length]⟩
  case round =>
    obtain ⟨m, hm, rfl, ht⟩ := hrel
    have HT := Lib.hid ht
    clear ht
    rcases Nat.eq_zero_or_pos m with rfl | hpos
    · go_wp2
      go_ret
      refine ⟨_, rfl, ⟨A, c, ?_, ?_, ?_, H0.out, ?_⟩, ?_, rfl⟩
      · rw [← HT.out]; rfl
      · rw [← HT.out]; exact Nat.zero_le _
      · rw [← HT.out]; exact Nat.zero_le _
      · rw [← HT.out]; exact Cells.nil
      · intro B hB ad n c' e
        injection e with e1 e2 e3
        subst e1
        exact hB _ _ _ rfl
    · obtain ⟨j, rfl⟩ : ∃ j, m = j + 1 := ⟨m - 1, by omega⟩
      obtain ⟨b, o, rfl, hb, hc⟩ := h3 (by omega)
      have hcj := hc j (by omega)
      have hlast : l.take (j + 1) = l.take j ++ [l[j]] := List.take_succ_eq_append_getElem (by omega)
      have HC := Lib.hid hc
      have HL := Lib.hid hlast
      clear hc hlast h3
      by_cases hz : l[j] = 0
      · have hz' : (((l[j] : Nat) : Int) == 0) = true := by rw [hz]; rfl
        have HZ := Lib.hid hz
        clear hz
        go_wp2
        go_round
        case rel =>
          refine ⟨j, by omega, by go_num, ?_⟩
          rw [← HT.out, HL.out, HZ.out, Nt.trimL_zero]
        case measure => simp
      · have hz' : (((l[j] : Nat) : Int) == 0) = false := by rw [beq_eq_false_iff_ne]; omega
        have HZ := Lib.hid hz
        clear hz
        go_wp2
        go_ret
        have e : l.take (j + 1) = Nt.trimL l := by rw [← HT.out, HL.out, Nt.trimL_pos _ HZ.out]
        have el : (Nt.trimL l).length = j + 1 := by rw [← e]; simp; omega
        refine ⟨_, rfl, ⟨some ⟨b, o, none⟩, c, ?_, ?_, ?_, (fun h => by cases h), ?_⟩, ?_, rfl⟩
        · rw [el]; go_num
        · rw [el]; omega
        · rw [el]; omega
        · intro _
          refine ⟨b, o, rfl, hb, fun i hi => ?_⟩
          rw [el] at hi
          rw [HC.out i (by omega)]
          simp [← e]
        · intro B hB ad n c' e
          injection e with e1 e2 e3
          injection e1 with e1
          subst e1
          exact hB _ _ _ rfl
theorem trim_any (v : Value) (w : World) (k : Nat) (l : List Nat) (hk : l.length = k) (h : Nv w v l) (hd : Nt.dig l) :
    Calls Tryz.prog 136 #[v] w fun e w' => ∃ v', e = .returned v' ∧ Nv w v' (Nt.trimL l) ∧ w = w' :=
  (trim_hi v w k l hk h hd).mono fun _ _ ⟨v', h1, h2, _, h3⟩ => ⟨v', h1, h2, h3⟩
end Go.Proofs.YtcnlonaighlmbaaGreatDoor

namespace Go.Proofs.YtcnlonaighlmbaaGreatDoor
open Go.RowKit

namespace Nt
/-- How two numbers compare. -/
def Cmp (a b : Nat) (r : Int) : Prop := (r < 0 ∧ a < b) ∨ (r = 0 ∧ a = b) ∨ (0 < r ∧ b < a)
theorem val_split (l : List Nat) (j : Nat) (h : j < l.length) : val l = val (l.take j) + B ^ j * (l[j] + B * val (l.drop (j + 1))) := by
  have e : l = l.take j ++ l[j] :: l.drop (j + 1) := by rw [← List.drop_eq_getElem_cons h, List.take_append_drop]
  have h2 := val_append (l.take j) (l[j] :: l.drop (j + 1))
  rw [← e] at h2
  rw [h2, val_cons, List.length_take, Nat.min_eq_left (by omega)]
theorem val_lt_at {a b : List Nat} (ha : dig a) (j : Nat) (h1 : j < a.length) (h2 : j < b.length) (hd : a.drop (j + 1) = b.drop (j + 1)) (hlt : a[j] < b[j]) : val a < val b := by
  rw [val_split a j h1, val_split b j h2, hd]
  have h3 := val_lt (dig_take ha j)
  rw [List.length_take, Nat.min_eq_left (by omega)] at h3
  have h4 : B ^ j * (a[j] + B * val (b.drop (j + 1)) + 1) ≤ B ^ j * (b[j] + B * val (b.drop (j + 1))) := Nat.mul_le_mul_left _ (by omega)
  rw [Nat.mul_succ] at h4
  omega
end Nt

def CmpRet (a b : Nat) (w : World) (e : Ending) (w' : World) : Prop := ∃ (r : Int) (n : Nat), e = .returned (.int .i64 r) ∧ Nt.Cmp a b r ∧ -1099511627776 ≤ r ∧ r ≤ 1099511627776 ∧ w.drewN n = w'

theorem drewN_two (w : World) (a b : Nat) : w.drewN (a + b) = (w.drewN a).drewN b := by simp [World.drewN, Nat.add_assoc]
theorem drewN_three (w : World) (a b c : Nat) : w.drewN (a + (b + c)) = ((w.drewN a).drewN b).drewN c := by rw [drewN_two, drewN_two]

theorem compare_any (va vb : Value) (la lb : List Nat) (w : World) (ha : Nv w va la) (hb : Nv w vb lb) (ca : Nt.canon la) (cb : Nt.canon lb) :
    Calls Tryz.prog 207 #[va, vb] w (CmpRet (Nt.val la) (Nt.val lb) w) := by
  obtain ⟨A, c, rfl, a1, a2, a0, a3⟩ := ha.ex
  obtain ⟨A', c', rfl, b1, b2, b0, b3⟩ := hb.ex
  clear ha hb a0 b0
  have CA := Lib.hid ca
  have CB := Lib.hid cb
  clear ca cb
  by_cases hl : la.length = lb.length
  case neg =>
    have hne : ((la.length : Int) != lb.length) = true := by rw [bne_iff_ne]; omega
    have hcmp : Nt.Cmp (Nt.val la) (Nt.val lb) (la.length - lb.length) := by
      rcases Nat.lt_or_ge la.length lb.length with h | h
      · exact .inl ⟨by omega, Nt.canon_len_lt CA.out CB.out h⟩
      · exact .inr (.inr ⟨by omega, Nt.canon_len_lt CB.out CA.out (by omega)⟩)
    have HC := Lib.hid hcmp
    clear hcmp hl a3 b3
    go_enter Tryz.func207, Tryz.ntmps207
    go_wp2
    go_ret
    exact ⟨_, 0, rfl, HC.out, by omega, by omega, rfl⟩
  case pos =>
    have hne : ((la.length : Int) != lb.length) = false := by rw [hl]; simp
    have HL := Lib.hid hl
    have hll : la.length ≤ lb.length := by omega
    clear hl
    go_enter Tryz.func207, Tryz.ntmps207
    go_wp2
    go_loopw [5] (fun s wr => ∃ j n : Nat, j ≤ la.length ∧ s = .int .i64 ((j : Int) - 1) ∧ la.drop j = lb.drop j ∧ wr = w.drewN n) (fun s _ => (intOf s + 1).toNat)
    case atStart =>
      refine ⟨la.length, 0, Nat.le_refl _, rfl, ?_, rfl⟩
      rw [List.drop_length, HL.out, List.drop_length]
    case round =>
      obtain ⟨j, n, hj, rfl, hd, rfl⟩ := hrel
      have HDr := Lib.hid hd
      clear hd
      rcases Nat.eq_zero_or_pos j with rfl | hpos
      · have e : la = lb := by have := HDr.out; simpa using this
        have HE := Lib.hid e
        clear e
        go_wp2
        go_ret
        exact ⟨_, n, rfl, .inr (.inl ⟨rfl, by rw [HE.out]⟩), by omega, by omega, rfl⟩
      · obtain ⟨i, rfl⟩ : ∃ i, j = i + 1 := ⟨j - 1, by omega⟩
        obtain ⟨b, o, rfl, hb, hc⟩ := a3 (by omega)
        obtain ⟨b', o', rfl, hb', hc'⟩ := b3 (by omega)
        have hi1 : i < la.length := by omega
        have hi2 : i < lb.length := by omega
        have c1 := hc i hi1
        have c2 := hc' i hi2
        have ei : ((i + 1 : Nat) : Int) - 1 = i := by omega
        rw [ei]
        clear hc hc' a3 b3 ei
        rcases Nat.lt_trichotomy la[i] lb[i] with hlt | heq | hgt
        · have hv := Nt.val_lt_at CA.out.1 i hi1 hi2 HDr.out hlt
          have hlt' : ((la[i] : Nat) : Int) < lb[i] := by omega
          have hne' : (((la[i] : Nat) : Int) != lb[i]) = true := by rw [bne_iff_ne]; omega
          have HV := Lib.hid hv
          clear hv hlt
          go_wp2
          go_quiet (fail)
          go_wp2
          go_quiet (fail)
          go_wp2
          go_ret
          exact ⟨_, _, rfl, .inl ⟨by decide, HV.out⟩, by omega, by omega, drewN_three _ _ _ _⟩
        · have heq' : (((la[i] : Nat) : Int) != lb[i]) = false := by rw [heq]; simp
          have hd2 : la.drop i = lb.drop i := by
            rw [List.drop_eq_getElem_cons hi1, List.drop_eq_getElem_cons hi2, heq, HDr.out]
          have HD2 := Lib.hid hd2
          clear hd2 heq
          go_wp2
          go_quiet (fail)
          go_wp2
          go_roundw
          case rel => exact ⟨i, _, by omega, rfl, HD2.out, rfl⟩
          case measure => simp [intOf]
        · have hv := Nt.val_lt_at CB.out.1 i hi2 hi1 HDr.out.symm hgt
          have hgt' : ¬ ((la[i] : Nat) : Int) < lb[i] := by omega
          have hne' : (((la[i] : Nat) : Int) != lb[i]) = true := by rw [bne_iff_ne]; omega
          have HV := Lib.hid hv
          clear hv hgt
          go_wp2
          go_quiet (fail)
          go_wp2
          go_quiet (fail)
          go_wp2
          go_ret
          exact ⟨_, _, rfl, .inr (.inr ⟨by decide, HV.out⟩), by omega, by omega, drewN_three _ _ _ _⟩
end Go.Proofs.YtcnlonaighlmbaaGreatDoor

namespace Go.Proofs.YtcnlonaighlmbaaGreatDoor
open Go.RowKit

set_option maxRecDepth 100000 in
theorem clone_any (v : Value) (l : List Nat) (w : World) (h : Nv w v l) :
    Calls Tryz.prog 208 #[v] w fun e w' => ∃ v', e = .returned v' ∧ Own w' w.heap.size v' l ∧ Below w.heap.size w w' := by
  have hlen := h.len
  have hk := h
  rcases h.src with ⟨rfl, rfl⟩ | ⟨ad, c, rfl, _, _⟩
  · have hq : ∀ W : World, (binOp .eql 58 (.slice none 0 0) (.slice none 0 0)).run Tryz.prog W = .ok (.bool true) W := fun W => Lib.run_eql_slice_nil (P := Tryz.prog) W 58 111 none 0 0 0 0 Tryz.underlying58
    go_enter Tryz.func208, Tryz.ntmps208
    go_wp2
    go_ret
    exact ⟨_, rfl, Own.nil _ _, Below.refl _ _⟩
  · have hq : ∀ W : World, (binOp .eql 58 (.slice (some ad) l.length c) (.slice none 0 0)).run Tryz.prog W = .ok (.bool false) W := fun W => Lib.run_eql_slice_nil (P := Tryz.prog) W 58 111 (some ad) l.length c 0 0 Tryz.underlying58
    have HK := Lib.hid (hk.below ((Below.refl _ w).alloc (Nat.le_refl _) (.cells #[] 111)))
    clear hk h
    go_enter Tryz.func208, Tryz.ntmps208
    go_wp2_with (at_builtin; refine wp_appN rfl (.tmp 5) (.tmp 6) rfl w.heap.size _ [] rfl (own_lit0 w w.heap.size (Nat.le_refl _)) _ l rfl HK.out ?_ ?_ ?_; (simp; omega); (simp); intro v1 w1 ho1 hb1 hg1)
    go_ret
    exact ⟨v1, rfl, by simpa using ho1, ((Below.refl _ _).alloc (Nat.le_refl _) _).trans hb1⟩
end Go.Proofs.YtcnlonaighlmbaaGreatDoor

namespace Go.Proofs.YtcnlonaighlmbaaGreatDoor
open Go.RowKit

namespace Nt
theorem take_snoc (l : List Nat) (k : Nat) (h : k < l.length) : l.take (k + 1) = l.take k ++ [l[k]] := List.take_succ_eq_append_getElem h
theorem val_take_succ (l : List Nat) (k : Nat) (h : k < l.length) : val (l.take (k + 1)) = val (l.take k) + B ^ k * l[k] := by
  rw [take_snoc l k h, val_snoc, List.length_take, Nat.min_eq_left (by omega)]
theorem take_of_ge (l : List Nat) (k : Nat) (h : l.length ≤ k) : l.take k = l := List.take_of_length_le h
theorem dig_set {l : List Nat} (h : dig l) (i : Nat) {d : Nat} (hd : d < B) : dig (l.set i d) := fun x hx => by
  rcases List.mem_or_eq_of_mem_set hx with h' | h'
  · exact h x h'
  · rw [h']; exact hd
theorem set_take (l : List Nat) (i d : Nat) : (l.set i d).take i = l.take i := by rw [List.take_set]; exact List.set_eq_of_length_le (by simp; omega)
theorem set_take_succ (l : List Nat) (i d : Nat) (h : i < l.length) : val ((l.set i d).take (i + 1)) = val (l.take i) + B ^ i * d := by
  rw [val_take_succ _ _ (by simpa using h), set_take]; simp
theorem set_drop (l : List Nat) (i d : Nat) : (l.set i d).drop (i + 1) = l.drop (i + 1) := by rw [List.drop_set_of_lt (by omega)]

/-- What holds of a difference behind k digits. -/
structure SubAt (la lb O : List Nat) (k c : Nat) : Prop where
  len : O.length = la.length
  dg : dig O
  rest : O.drop k = la.drop k
  c1 : c ≤ 1
  eq : val (la.take k) + c * B ^ k = val (O.take k) + val (lb.take k)

theorem SubAt.start (la lb : List Nat) (h : dig la) : SubAt la lb la 0 0 := ⟨rfl, h, rfl, by omega, by simp [val]⟩
theorem SubAt.get {la lb O : List Nat} {k c : Nat} (h : SubAt la lb O k c) (hk : k < la.length) (hk' : k < O.length) : O[k] = la[k] := by
  have := congrArg List.head? h.rest
  rw [List.head?_drop, List.head?_drop, List.getElem?_eq_getElem hk, List.getElem?_eq_getElem hk'] at this
  exact Option.some.inj this
/-- A step: the digit d is laid, c' is borrowed. -/
theorem SubAt.step {la lb O : List Nat} {k c c' d : Nat} (h : SubAt la lb O k c) (hk : k < la.length) (hd : d < B) (hc' : c' ≤ 1) {e : Nat} (he : val (lb.take (k + 1)) = val (lb.take k) + B ^ k * e)
    (heq : la[k] + c' * B = d + (c + e)) : SubAt la lb (O.set k d) (k + 1) c' := by
  have hk' : k < O.length := by rw [h.len]; exact hk
  refine ⟨by rw [List.length_set]; exact h.len, dig_set h.dg k hd, ?_, hc', ?_⟩
  · rw [set_drop, ← List.drop_drop (i := 1) (j := k), ← List.drop_drop (i := 1) (j := k), h.rest]
  · rw [val_take_succ la k hk, set_take_succ O k d hk', he, Nat.pow_succ]
    have h1 := h.eq
    have h2 : B ^ k * (la[k] + c' * B) = B ^ k * (d + (c + e)) := by rw [heq]
    rw [Nat.mul_add, Nat.mul_add, Nat.mul_add] at h2
    have h3 : c' * (B ^ k * B) = B ^ k * (c' * B) := by
      rw [Nat.mul_left_comm]
    have h4 : c * B ^ k = B ^ k * c := Nat.mul_comm _ _
    omega
theorem SubAt.done {la lb O : List Nat} {c : Nat} (h : SubAt la lb O la.length c) (hl : lb.length ≤ la.length) (hle : val lb ≤ val la) : val O = val la - val lb := by
  have h1 := h.eq
  rw [List.take_length, take_of_ge O _ (by rw [h.len]; exact Nat.le_refl _), take_of_ge lb _ hl] at h1
  have h2 := val_lt h.dg
  rw [h.len] at h2
  have : c = 0 := by
    rcases Nat.eq_zero_or_pos c with e | e
    · exact e
    · have : c = 1 := by have := h.c1; omega
      subst this
      omega
  subst this
  omega
theorem len_of_le {a b : List Nat} (ha : canon a) (hb : canon b) (h : val b ≤ val a) : b.length ≤ a.length := by
  rcases Nat.lt_or_ge a.length b.length with hl | hl
  · have := canon_len_lt ha hb hl; omega
  · exact hl
end Nt

set_option maxRecDepth 100000 in
set_option maxHeartbeats 1000000 in
theorem minus_any (va vb : Value) (la lb : List Nat) (w : World) (ha : Nv w va la) (hb : Nv w vb lb) (ca : Nt.canon la) (cb : Nt.canon lb) (hle : Nt.val lb ≤ Nt.val la) :
    Calls Tryz.prog 175 #[va, vb] w fun e w' => ∃ v, e = .returned v ∧ Nv w' v (Nt.digs (Nt.val la - Nt.val lb)) ∧ Below w.heap.size w w' := by
  have hll := Nt.len_of_le ca cb hle
  have hla := ha.len
  obtain ⟨A', c', rfl, b1, b2, b0, b3⟩ := hb.ex
  have HA := Lib.hid ha
  have CA := Lib.hid ca
  have CB := Lib.hid cb
  have HLE := Lib.hid hle
  clear ha hb ca cb b0 hle
  go_enter Tryz.func175, Tryz.ntmps175
  go_wp2_with (go_at_call 208; refine (clone_any _ _ _ HA.out).mono ?_; rintro e w1 ⟨v1, rfl, ho1, hb1⟩; obtain ⟨A, cap, rfl, hA⟩ := ho1.shape; have HO := Lib.hid ho1; have HB1 := Lib.hid hb1; clear ho1 hb1)
  go_loopw [6, 13] (fun s6 s13 wr => ∃ (k c : Nat) (O : List Nat), k ≤ la.length ∧ s13 = .int .i64 k ∧ s6 = .int .u32 c ∧ Own wr w.heap.size (.slice A la.length cap) O ∧ Nt.SubAt la lb O k c ∧ Below w.heap.size w wr) (fun _ s13 _ => la.length - (intOf s13).toNat)
  case atStart => exact ⟨0, 0, la, by omega, rfl, rfl, HO.out, Nt.SubAt.start la lb CA.out.1, HB1.out⟩
  case round =>
    obtain ⟨k, c, O, hk, rfl, rfl, hown, hsub, hbel⟩ := hrel
    have HS := Lib.hid hsub
    have hc1 := hsub.c1
    have hol := hsub.len
    have HOL := Lib.hid hol
    have HBel := Lib.hid hbel
    have HOwn := Lib.hid hown
    by_cases hlt : k < la.length
    · obtain ⟨g, rfl, hg1, hg2⟩ := hA (by omega)
      have hkO : k < O.length := by omega
      have hcell := hown.cell' hol hkO
      have hfr := hown.frozen' hol k
      have hget := hsub.get hlt hkO
      have hd := hsub.dg O[k] (List.getElem_mem hkO)
      clear hown hsub hbel hA hol
      by_cases hkb : k < lb.length
      · obtain ⟨b', o', rfl, hbl', hcb⟩ := b3 (by omega)
        have hcellb := (HBel.out.cell (p := ⟨b', o' + k, none⟩) (by exact hbl')).trans (hcb k hkb)
        have hdb := CB.out.1 lb[k] (List.getElem_mem hkb)
        have htk := Nt.val_take_succ lb k hkb
        have HTK := Lib.hid htk
        clear hcb htk b3
        have HG := Lib.hid hget
        clear hget
        unfold Nt.B at hd hdb
        by_cases hcmp : O[k] < c + lb[k]
        · have hcmp' : ((O[k] : Nat) : Int) < (c : Int) + lb[k] := by omega
          go_wp2
          go_roundw
          case rel =>
            have h1 := HOwn.out.set' HOL.out k (y := (O[k] : Int) + 1000000000) (O[k] + 1000000000) (by omega)
            have h2 := h1.set' (by rw [List.length_set]; exact HOL.out) k (y := (O[k] : Int) + 1000000000 - ((c : Int) + lb[k])) (O[k] + 1000000000 - (c + lb[k])) (by omega)
            rw [List.set_set] at h2
            exact ⟨k + 1, 1, _, by omega, by go_num, rfl, h2, HS.out.step hlt (by unfold Nt.B; omega) (Nat.le_refl _) HTK.out (by rw [← HG.out]; unfold Nt.B; omega), (HBel.out.setCell (by exact hg1) _).setCell (by exact hg1) _⟩
          case measure => simp [intOf]; omega
        · have hcmp' : ¬ ((O[k] : Nat) : Int) < (c : Int) + lb[k] := by omega
          go_wp2
          go_roundw
          case rel =>
            have h2 := HOwn.out.set' HOL.out k (y := (O[k] : Int) - ((c : Int) + lb[k])) (O[k] - (c + lb[k])) (by omega)
            exact ⟨k + 1, 0, _, by omega, by go_num, rfl, h2, HS.out.step hlt (by unfold Nt.B; omega) (Nat.zero_le _) HTK.out (by rw [← HG.out]; unfold Nt.B; omega), HBel.out.setCell (by exact hg1) _⟩
          case measure => simp [intOf]; omega
      · have htk : Nt.val (lb.take (k + 1)) = Nt.val (lb.take k) + Nt.B ^ k * 0 := by
          rw [Nt.take_of_ge lb k (by omega), Nt.take_of_ge lb (k + 1) (by omega), Nat.mul_zero, Nat.add_zero]
        have HTK := Lib.hid htk
        clear htk b3
        have HG := Lib.hid hget
        clear hget
        unfold Nt.B at hd
        by_cases hcmp : O[k] < c
        · have hcmp' : ((O[k] : Nat) : Int) < (c : Int) := by omega
          go_wp2
          go_roundw
          case rel =>
            have h1 := HOwn.out.set' HOL.out k (y := (O[k] : Int) + 1000000000) (O[k] + 1000000000) (by omega)
            have h2 := h1.set' (by rw [List.length_set]; exact HOL.out) k (y := (O[k] : Int) + 1000000000 - (c : Int)) (O[k] + 1000000000 - c) (by omega)
            rw [List.set_set] at h2
            exact ⟨k + 1, 1, _, by omega, by go_num, rfl, h2, HS.out.step hlt (by unfold Nt.B; omega) (Nat.le_refl _) HTK.out (by rw [← HG.out]; unfold Nt.B; omega), (HBel.out.setCell (by exact hg1) _).setCell (by exact hg1) _⟩
          case measure => simp [intOf]; omega
        · have hcmp' : ¬ ((O[k] : Nat) : Int) < (c : Int) := by omega
          go_wp2
          go_roundw
          case rel =>
            have h2 := HOwn.out.set' HOL.out k (y := (O[k] : Int) - (c : Int)) (O[k] - c) (by omega)
            exact ⟨k + 1, 0, _, by omega, by go_num, rfl, h2, HS.out.step hlt (by unfold Nt.B; omega) (Nat.zero_le _) HTK.out (by rw [← HG.out]; unfold Nt.B; omega), HBel.out.setCell (by exact hg1) _⟩
          case measure => simp [intOf]; omega
    · obtain rfl : k = la.length := by omega
      have hv : Nt.val O = Nt.val la - Nt.val lb := HS.out.done hll HLE.out
      have hnv : Nv wr (.slice A la.length cap) O := by
        refine Own.nv (base := w.heap.size) ?_ (by omega)
        exact hown
      have htr := fun W => trim_any (.slice A la.length cap) W O.length O rfl
      have e : Nt.trimL O = Nt.digs (Nt.val la - Nt.val lb) := by rw [← hv, ← Nt.digs_val (Nt.trimL_canon hsub.dg), Nt.trimL_val hsub.dg]
      have HD := Lib.hid hsub.dg
      have HT := Lib.hid htr
      have HE := Lib.hid e
      have HN := Lib.hid hnv
      clear hsub hv hnv htr e hown b3 hA hol
      go_wp2_with (go_at_call 136; refine (HT.out _ HN.out HD.out).mono ?_; rintro e w2 ⟨v2, rfl, hn2, rfl⟩)
      go_ret
      exact ⟨v2, rfl, by rw [← HE.out]; exact hn2, HBel.out⟩
end Go.Proofs.YtcnlonaighlmbaaGreatDoor
