/- Contracts of exact's common and the number 1. -/
import Derived.Test.YtmapagbmihpbmaaGreatDoorGf
import Derived.Deep.LoopGhost
namespace Go.Proofs.YtmapagbmihpbmaaGreatDoor
open Go.RowKit

namespace Nt
theorem digs_mono {a b : Nat} (h : a ≤ b) : (digs a).length ≤ (digs b).length := by
  rcases Nat.lt_or_ge (digs b).length (digs a).length with hl | hl
  · have := canon_len_lt (digs_canon b) (digs_canon a) hl
    rw [val_digs, val_digs] at this
    omega
  · exact hl
theorem digs_eq_nil {a : Nat} : digs a = [] ↔ a = 0 := by
  constructor
  · intro h; have := val_digs a; rw [h] at this; simpa [val] using this.symm
  · rintro rfl; exact digs_zero
end Nt

theorem zero_v (v : Value) (l : List Nat) (w : World) (h : Nv w v l) :
    Calls Tryz.prog 75 #[v] w fun e w' => e = .returned (.bool ((l.length : Int) == 0)) ∧ w = w' := by
  obtain ⟨A, c, rfl, _⟩ := h.ex
  exact zero_any A l.length c w

set_option maxRecDepth 100000 in
set_option maxHeartbeats 1000000 in
theorem common_any (va vb : Value) (a b : Nat) (w : World) (ha : Nv w va (Nt.digs a)) (hb : Nv w vb (Nt.digs b)) (sa : (Nt.digs a).length ≤ 900000) (sb : (Nt.digs b).length ≤ 900000) :
    Calls Tryz.prog 78 #[va, vb] w fun e w' => ∃ v, e = .returned v ∧ Nv w' v (Nt.digs (Nat.gcd a b)) ∧ Below w.heap.size w w' := by
  have HA := Lib.hid ha
  have HB := Lib.hid hb
  clear ha hb
  go_enter Tryz.func78, Tryz.ntmps78
  go_wp2
  go_loopg [0, 1] b (fun g s0 s1 wr => ∃ x : Nat, Nv wr s0 (Nt.digs x) ∧ Nv wr s1 (Nt.digs g) ∧ Nat.gcd x g = Nat.gcd a b ∧ (Nt.digs x).length ≤ 900000 ∧ (Nt.digs g).length ≤ 900000 ∧ Below w.heap.size w wr)
  case atStart => exact ⟨a, HA.out, HB.out, rfl, sa, sb, Below.refl _ _⟩
  case round =>
    obtain ⟨x, h1, h2, h3, h4, h5, h6⟩ := hrel
    have H1 := Lib.hid h1
    have H2 := Lib.hid h2
    have H3 := Lib.hid h3
    have H6 := Lib.hid h6
    clear h1 h2 h3 h6
    rcases Nat.eq_zero_or_pos gk with hz | hpos
    · have hl : (((Nt.digs gk).length : Int) == 0) = true := by rw [hz, Nt.digs_zero]; rfl
      have e : x = Nat.gcd a b := by have := H3.out; rwa [hz, Nat.gcd_zero_right] at this
      have E := Lib.hid e
      clear hz e
      go_wp2_with (go_at_call 75; refine (zero_v _ _ _ H2.out).mono ?_; rintro e w2 ⟨rfl, rfl⟩)
      go_ret
      exact ⟨_, rfl, by rw [← E.out]; exact H1.out, H6.out⟩
    · have hl : (((Nt.digs gk).length : Int) == 0) = false := by
        rw [beq_eq_false_iff_ne]
        intro h
        have : (Nt.digs gk) = [] := List.eq_nil_of_length_eq_zero (by omega)
        rw [Nt.digs_eq_nil] at this
        omega
      have hd := fun W v v' h1 h2 => divide_any v v' (Nt.digs x) (Nt.digs gk) W h1 h2 (Nt.digs_canon _) (Nt.digs_canon _) h4 h5 (by rw [Nt.val_digs]; exact hpos)
      rw [Nt.val_digs, Nt.val_digs] at hd
      have HD := Lib.hid hd
      have hlt := Nat.mod_lt x hpos
      have hm := Nt.digs_mono (Nat.le_of_lt hlt)
      have e : Nat.gcd gk (x % gk) = Nat.gcd a b := by rw [← H3.out, Nat.gcd_comm x gk, Nat.gcd_rec gk x, Nat.gcd_comm]
      have E := Lib.hid e
      clear hd e
      go_wp2_with (first | (go_at_call 75; refine (zero_v _ _ _ H2.out).mono ?_; rintro e w2 ⟨rfl, rfl⟩) | (go_at_call 79; refine (HD.out _ _ _ H1.out H2.out).mono ?_; rintro e w3 ⟨v1, v2, rfl, hn1, hn2, hb3⟩))
      go_roundg (x % gk)
      case measure => exact hlt
      case rel => exact ⟨gk, H2.out.below hb3, hn2, E.out, h5, by omega, below_tr H6.out hb3⟩
end Go.Proofs.YtmapagbmihpbmaaGreatDoor
