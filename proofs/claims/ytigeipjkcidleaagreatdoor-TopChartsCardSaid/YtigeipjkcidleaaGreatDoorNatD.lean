/- The contract of exact's nat minus. -/
import Derived.Test.YtigeipjkcidleaaGreatDoorNatC
namespace Go.Proofs.YtigeipjkcidleaaGreatDoor
open Go.RowKit

namespace Nt
theorem take_snoc (l : List Nat) (k : Nat) (h : k < l.length) : l.take (k + 1) = l.take k ++ [l[k]] := List.take_succ_eq_append_getElem h
theorem val_take_succ (l : List Nat) (k : Nat) (h : k < l.length) : val (l.take (k + 1)) = val (l.take k) + B ^ k * l[k] := by
  rw [take_snoc l k h, val_snoc, List.length_take, Nat.min_eq_left (by omega)]
theorem take_of_ge (l : List Nat) (k : Nat) (h : l.length ≤ k) : l.take k = l := List.take_of_length_le h
theorem dig_set {l : List Nat} (h : dig l) (i : Nat) {d : Nat} (hd : d < B) : dig (l.set i d) := fun x hx => by
  rcases List.mem_or_eq_of_mem_set hx with h' | h'
  · exact h x h'
  · rw [h']; exact hd
theorem set_take (l : List Nat) (i d : Nat) : (l.set i d).take i = l.take i := by rw [List.take_set]; exact List.set_eq_of_length_le (by simp; omega)
theorem set_take_succ (l : List Nat) (i d : Nat) (h : i < l.length) : val ((l.set i d).take (i + 1)) = val (l.take i) + B ^ i * d := by
  rw [val_take_succ _ _ (by simpa using h), set_take]; simp
theorem set_drop (l : List Nat) (i d : Nat) : (l.set i d).drop (i + 1) = l.drop (i + 1) := by rw [List.drop_set_of_lt (by omega)]

/-- What holds of a difference behind k digits. -/
structure SubAt (la lb O : List Nat) (k c : Nat) : Prop where
  len : O.length = la.length
  dg : dig O
  rest : O.drop k = la.drop k
  c1 : c ≤ 1
  eq : val (la.take k) + c * B ^ k = val (O.take k) + val (lb.take k)

theorem SubAt.start (la lb : List Nat) (h : dig la) : SubAt la lb la 0 0 := ⟨rfl, h, rfl, by omega, by simp [val]⟩
theorem SubAt.get {la lb O : List Nat} {k c : Nat} (h : SubAt la lb O k c) (hk : k < la.length) (hk' : k < O.length) : O[k] = la[k] := by
  have := congrArg List.head? h.rest
  rw [List.head?_drop, List.head?_drop, List.getElem?_eq_getElem hk, List.getElem?_eq_getElem hk'] at this
  exact Option.some.inj this
/-- A step: the digit d is laid, c' is borrowed. -/
theorem SubAt.step {la lb O : List Nat} {k c c' d : Nat} (h : SubAt la lb O k c) (hk : k < la.length) (hd : d < B) (hc' : c' ≤ 1) {e : Nat} (he : val (lb.take (k + 1)) = val (lb.take k) + B ^ k * e)
    (heq : la[k] + c' * B = d + (c + e)) : SubAt la lb (O.set k d) (k + 1) c' := by
  have hk' : k < O.length := by rw [h.len]; exact hk
  refine ⟨by rw [List.length_set]; exact h.len, dig_set h.dg k hd, ?_, hc', ?_⟩
  · rw [set_drop, ← List.drop_drop (i := 1) (j := k), ← List.drop_drop (i := 1) (j := k), h.rest]
  · rw [val_take_succ la k hk, set_take_succ O k d hk', he, Nat.pow_succ]
    have h1 := h.eq
    have h2 : B ^ k * (la[k] + c' * B) = B ^ k * (d + (c + e)) := by rw [heq]
    rw [Nat.mul_add, Nat.mul_add, Nat.mul_add] at h2
    have h3 : c' * (B ^ k * B) = B ^ k * (c' * B) := by
      rw [Nat.mul_left_comm]
    have h4 : c * B ^ k = B ^ k * c := Nat.mul_comm _ _
    omega
theorem SubAt.done {la lb O : List Nat} {c : Nat} (h : SubAt la lb O la.length c) (hl : lb.length ≤ la.length) (hle : val lb ≤ val la) : val O = val la - val lb := by
  have h1 := h.eq
  rw [List.take_length, take_of_ge O _ (by rw [h.len]; exact Nat.le_refl _), take_of_ge lb _ hl] at h1
  have h2 := val_lt h.dg
  rw [h.len] at h2
  have : c = 0 := by
    rcases Nat.eq_zero_or_pos c with e | e
    · exact e
    · have : c = 1 := by have := h.c1; omega
      subst this
      omega
  subst this
  omega
theorem len_of_le {a b : List Nat} (ha : canon a) (hb : canon b) (h : val b ≤ val a) : b.length ≤ a.length := by
  rcases Nat.lt_or_ge a.length b.length with hl | hl
  · have := canon_len_lt ha hb hl; omega
  · exact hl
end Nt

set_option maxRecDepth 100000 in
set_option maxHeartbeats 1000000 in
theorem minus_any (va vb : Value) (la lb : List Nat) (w : World) (ha : Nv w va la) (hb : Nv w vb lb) (ca : Nt.canon la) (cb : Nt.canon lb) (hle : Nt.val lb ≤ Nt.val la) :
    Calls Tryz.prog 80 #[va, vb] w fun e w' => ∃ v, e = .returned v ∧ Nv w' v (Nt.digs (Nt.val la - Nt.val lb)) ∧ Below w.heap.size w w' := by
  have hll := Nt.len_of_le ca cb hle
  have hla := ha.len
  obtain ⟨A', c', rfl, b1, b2, b0, b3⟩ := hb.ex
  have HA := Lib.hid ha
  have CA := Lib.hid ca
  have CB := Lib.hid cb
  have HLE := Lib.hid hle
  clear ha hb ca cb b0 hle
  go_enter Tryz.func80, Tryz.ntmps80
  go_wp2_with (go_at_call 134; refine (clone_any _ _ _ HA.out).mono ?_; rintro e w1 ⟨v1, rfl, ho1, hb1⟩; obtain ⟨A, cap, rfl, hA⟩ := ho1.shape; have HO := Lib.hid ho1; have HB1 := Lib.hid hb1; clear ho1 hb1)
  go_loopw [6, 13] (fun s6 s13 wr => ∃ (k c : Nat) (O : List Nat), k ≤ la.length ∧ s13 = .int .i64 k ∧ s6 = .int .u32 c ∧ Own wr w.heap.size (.slice A la.length cap) O ∧ Nt.SubAt la lb O k c ∧ Below w.heap.size w wr) (fun _ s13 _ => la.length - (intOf s13).toNat)
  case atStart => exact ⟨0, 0, la, by omega, rfl, rfl, HO.out, Nt.SubAt.start la lb CA.out.1, HB1.out⟩
  case round =>
    obtain ⟨k, c, O, hk, rfl, rfl, hown, hsub, hbel⟩ := hrel
    have HS := Lib.hid hsub
    have hc1 := hsub.c1
    have hol := hsub.len
    have HOL := Lib.hid hol
    have HBel := Lib.hid hbel
    have HOwn := Lib.hid hown
    by_cases hlt : k < la.length
    · obtain ⟨g, rfl, hg1, hg2⟩ := hA (by omega)
      have hkO : k < O.length := by omega
      have hcell := hown.cell' hol hkO
      have hfr := hown.frozen' hol k
      have hget := hsub.get hlt hkO
      have hd := hsub.dg O[k] (List.getElem_mem hkO)
      clear hown hsub hbel hA hol
      by_cases hkb : k < lb.length
      · obtain ⟨b', o', rfl, hbl', hcb⟩ := b3 (by omega)
        have hcellb := (HBel.out.cell (p := ⟨b', o' + k, none⟩) (by exact hbl')).trans (hcb k hkb)
        have hdb := CB.out.1 lb[k] (List.getElem_mem hkb)
        have htk := Nt.val_take_succ lb k hkb
        have HTK := Lib.hid htk
        clear hcb htk b3
        have HG := Lib.hid hget
        clear hget
        unfold Nt.B at hd hdb
        by_cases hcmp : O[k] < c + lb[k]
        · have hcmp' : ((O[k] : Nat) : Int) < (c : Int) + lb[k] := by omega
          go_wp2
          go_roundw
          case rel =>
            have h1 := HOwn.out.set' HOL.out k (y := (O[k] : Int) + 1000000000) (O[k] + 1000000000) (by omega)
            have h2 := h1.set' (by rw [List.length_set]; exact HOL.out) k (y := (O[k] : Int) + 1000000000 - ((c : Int) + lb[k])) (O[k] + 1000000000 - (c + lb[k])) (by omega)
            rw [List.set_set] at h2
            exact ⟨k + 1, 1, _, by omega, by go_num, rfl, h2, HS.out.step hlt (by unfold Nt.B; omega) (Nat.le_refl _) HTK.out (by rw [← HG.out]; unfold Nt.B; omega), (HBel.out.setCell (by exact hg1) _).setCell (by exact hg1) _⟩
          case measure => simp [intOf]; omega
        · have hcmp' : ¬ ((O[k] : Nat) : Int) < (c : Int) + lb[k] := by omega
          go_wp2
          go_roundw
          case rel =>
            have h2 := HOwn.out.set' HOL.out k (y := (O[k] : Int) - ((c : Int) + lb[k])) (O[k] - (c + lb[k])) (by omega)
            exact ⟨k + 1, 0, _, by omega, by go_num, rfl, h2, HS.out.step hlt (by unfold Nt.B; omega) (Nat.zero_le _) HTK.out (by rw [← HG.out]; unfold Nt.B; omega), HBel.out.setCell (by exact hg1) _⟩
          case measure => simp [intOf]; omega
      · have htk : Nt.val (lb.take (k + 1)) = Nt.val (lb.take k) + Nt.B ^ k * 0 := by
          rw [Nt.take_of_ge lb k (by omega), Nt.take_of_ge lb (k + 1) (by omega), Nat.mul_zero, Nat.add_zero]
        have HTK := Lib.hid htk
        clear htk b3
        have HG := Lib.hid hget
        clear hget
        unfold Nt.B at hd
        by_cases hcmp : O[k] < c
        · have hcmp' : ((O[k] : Nat) : Int) < (c : Int) := by omega
          go_wp2
          go_roundw
          case rel =>
            have h1 := HOwn.out.set' HOL.out k (y := (O[k] : Int) + 1000000000) (O[k] + 1000000000) (by omega)
            have h2 := h1.set' (by rw [List.length_set]; exact HOL.out) k (y := (O[k] : Int) + 1000000000 - (c : Int)) (O[k] + 1000000000 - c) (by omega)
            rw [List.set_set] at h2
            exact ⟨k + 1, 1, _, by omega, by go_num, rfl, h2, HS.out.step hlt (by unfold Nt.B; omega) (Nat.le_refl _) HTK.out (by rw [← HG.out]; unfold Nt.B; omega), (HBel.out.setCell (by exact hg1) _).setCell (by exact hg1) _⟩
          case measure => simp [intOf]; omega
        · have hcmp' : ¬ ((O[k] : Nat) : Int) < (c : Int) := by omega
          go_wp2
          go_roundw
          case rel =>
            have h2 := HOwn.out.set' HOL.out k (y := (O[k] : Int) - (c : Int)) (O[k] - c) (by omega)
            exact ⟨k + 1, 0, _, by omega, by go_num, rfl, h2, HS.out.step hlt (by unfold Nt.B; omega) (Nat.zero_le _) HTK.out (by rw [← HG.out]; unfold Nt.B; omega), HBel.out.setCell (by exact hg1) _⟩
          case measure => simp [intOf]; omega
    · obtain rfl : k = la.length := by omega
      have hv : Nt.val O = Nt.val la - Nt.val lb := HS.out.done hll HLE.out
      have hnv : Nv wr (.slice A la.length cap) O := by
        refine Own.nv (base := w.heap.size) ?_ (by omega)
        exact hown
      have htr := fun W => trim_any (.slice A la.length cap) W O.length O rfl
      have e : Nt.trimL O = Nt.digs (Nt.val la - Nt.val lb) := by rw [← hv, ← Nt.digs_val (Nt.trimL_canon hsub.dg), Nt.trimL_val hsub.dg]
      have HD := Lib.hid hsub.dg
      have HT := Lib.hid htr
      have HE := Lib.hid e
      have HN := Lib.hid hnv
      clear hsub hv hnv htr e hown b3 hA hol
      go_wp2_with (go_at_call 133; refine (HT.out _ HN.out HD.out).mono ?_; rintro e w2 ⟨v2, rfl, hn2, rfl⟩)
      go_ret
      exact ⟨v2, rfl, by rw [← HE.out]; exact hn2, HBel.out⟩
end Go.Proofs.YtigeipjkcidleaaGreatDoor
