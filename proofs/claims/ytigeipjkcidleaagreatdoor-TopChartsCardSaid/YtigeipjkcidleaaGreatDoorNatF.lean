/- The contract of exact's nat times. -/
import Derived.Test.YtigeipjkcidleaaGreatDoorNatE
namespace Go.Proofs.YtigeipjkcidleaaGreatDoor
open Go.RowKit

namespace Nt
theorem val_set (l : List Nat) (j d : Nat) (h : j < l.length) : val (l.set j d) + B ^ j * l[j] = val l + B ^ j * d := by
  have h1 := val_split l j h
  have h2 := val_split (l.set j d) j (by simpa using h)
  rw [set_take, set_drop] at h2
  simp only [List.getElem_set_self] at h2
  rw [Nat.mul_add] at h1 h2
  omega
theorem val_zeros : ∀ n : Nat, val (List.replicate n 0) = 0
  | 0 => rfl
  | n + 1 => by rw [List.replicate_succ, val_cons, val_zeros n]; rfl
theorem dig_zeros (n : Nat) : dig (List.replicate n 0) := fun d hd => by
  rw [(List.mem_replicate.1 hd).2]; decide
/-- Zeros from a place on. -/
def zfrom (l : List Nat) (k : Nat) : Prop := ∀ j (h : j < l.length), k ≤ j → l[j] = 0
theorem zfrom_set {l : List Nat} {k : Nat} (h : zfrom l k) (j d : Nat) : zfrom (l.set j d) (max k (j + 1)) := fun i hi hk => by
  rw [List.getElem_set]
  split
  · omega
  · exact h i (by simpa using hi) (by omega)
theorem zfrom_set_in {l : List Nat} {k : Nat} (h : zfrom l k) (j d : Nat) (hj : j < k) : zfrom (l.set j d) k := fun i hi hk => by
  rw [List.getElem_set]
  split
  · omega
  · exact h i (by simpa using hi) (by omega)

/-- Behind i digits of the first factor. -/
structure MulAt (la lb O : List Nat) (i : Nat) : Prop where
  len : O.length = la.length + lb.length
  dg : dig O
  eq : val O = val (la.take i) * val lb
  z : zfrom O (i + lb.length)
theorem MulAt.start (la lb : List Nat) : MulAt la lb (List.replicate (la.length + lb.length) 0) 0 :=
  ⟨by simp, dig_zeros _, by rw [val_zeros]; simp [val], fun j h _ => by simp⟩
/-- Behind k digits of the second factor, in the row of the digit x at i. -/
structure RowAt (la lb O : List Nat) (i x k c : Nat) : Prop where
  len : O.length = la.length + lb.length
  dg : dig O
  c1 : c < B
  eq : val O + c * B ^ (i + k) = val (la.take i) * val lb + x * val (lb.take k) * B ^ i
  z : zfrom O (i + lb.length)
theorem MulAt.row {la lb O : List Nat} {i : Nat} (h : MulAt la lb O i) (x : Nat) : RowAt la lb O i x 0 0 :=
  ⟨h.len, h.dg, by decide, by rw [h.eq]; simp [val], h.z⟩
theorem RowAt.bound {x y o c : Nat} (hx : x < B) (hy : y < B) (ho : o < B) (hc : c < B) : x * y + o + c < B * B := by
  have : x * y ≤ (B - 1) * (B - 1) := Nat.mul_le_mul (by omega) (by omega)
  have e : (B - 1) * (B - 1) + (B - 1) + (B - 1) + 1 = B * B := by decide
  omega
theorem RowAt.step {la lb O : List Nat} {i x k c : Nat} (h : RowAt la lb O i x k c) (hx : x < B) (cb : dig lb) (_hi : i < la.length) (hk : k < lb.length) (hO : i + k < O.length) :
    RowAt la lb (O.set (i + k) ((x * lb[k] + O[i + k] + c) % B)) i x (k + 1) ((x * lb[k] + O[i + k] + c) / B) := by
  have hy := cb lb[k] (List.getElem_mem hk)
  have ho := h.dg O[i + k] (List.getElem_mem hO)
  have hb := RowAt.bound hx hy ho h.c1
  have hdm := Nat.mod_add_div (x * lb[k] + O[i + k] + c) B
  generalize hn : x * lb[k] + O[i + k] + c = n at *
  refine ⟨by rw [List.length_set]; exact h.len, dig_set h.dg _ (Nat.mod_lt _ (by decide)), Nat.div_lt_of_lt_mul hb, ?_, zfrom_set_in h.z _ _ (by omega)⟩
  have hs := val_set O (i + k) (n % B) hO
  have he := h.eq
  rw [val_take_succ lb k hk]
  have e1 : n / B * B ^ (i + (k + 1)) = B ^ (i + k) * (B * (n / B)) := by
    rw [← Nat.add_assoc, Nat.pow_succ]
    rw [Nat.mul_comm (n / B), Nat.mul_assoc]
  have e2 : x * (val (lb.take k) + B ^ k * lb[k]) * B ^ i = x * val (lb.take k) * B ^ i + B ^ (i + k) * (x * lb[k]) := by
    rw [Nat.mul_add, Nat.add_mul, Nat.pow_add]
    congr 1
    rw [Nat.mul_comm (B ^ i) (B ^ k), Nat.mul_left_comm x (B ^ k), Nat.mul_assoc, Nat.mul_assoc (B ^ k), Nat.mul_comm (x * lb[k])]
  have e3 : B ^ (i + k) * n = B ^ (i + k) * (n % B) + B ^ (i + k) * (B * (n / B)) := by rw [← Nat.mul_add, hdm]
  have e4 : B ^ (i + k) * n = B ^ (i + k) * (x * lb[k]) + B ^ (i + k) * O[i + k] + B ^ (i + k) * c := by rw [← hn, Nat.mul_add, Nat.mul_add]
  have e5 : c * B ^ (i + k) = B ^ (i + k) * c := Nat.mul_comm _ _
  rw [e1, e2]
  omega
theorem RowAt.done {la lb O : List Nat} {i c : Nat} (hi : i < la.length) (h : RowAt la lb O i la[i] lb.length c) (hO : i + lb.length < O.length) : MulAt la lb (O.set (i + lb.length) c) (i + 1) := by
  have hs := val_set O (i + lb.length) c hO
  have hz := h.z (i + lb.length) hO (Nat.le_refl _)
  rw [hz, Nat.mul_zero, Nat.add_zero] at hs
  have he := h.eq
  rw [List.take_length] at he
  refine ⟨by rw [List.length_set]; exact h.len, dig_set h.dg _ h.c1, ?_, ?_⟩
  · rw [hs, val_take_succ la i hi, Nat.add_mul]
    have e5 : c * B ^ (i + lb.length) = B ^ (i + lb.length) * c := Nat.mul_comm _ _
    have e6 : B ^ i * la[i] * val lb = la[i] * val lb * B ^ i := by
      rw [Nat.mul_assoc, Nat.mul_comm]
    omega
  · have := zfrom_set h.z (i + lb.length) c
    rw [show max (i + lb.length) (i + lb.length + 1) = i + 1 + lb.length by omega] at this
    exact this
theorem MulAt.done {la lb O : List Nat} (h : MulAt la lb O la.length) : val O = val la * val lb := by
  have := h.eq
  rwa [List.take_length] at this
end Nt

theorem mul_bound {x y : Nat} (hx : x < 1000000000) (hy : y < 1000000000) : x * y ≤ 999999998000000001 := by
  have : x * y ≤ 999999999 * 999999999 := Nat.mul_le_mul (by omega) (by omega)
  omega

set_option maxRecDepth 100000 in
set_option maxHeartbeats 2000000 in
theorem times_any (va vb : Value) (la lb : List Nat) (w : World) (ha : Nv w va la) (hb : Nv w vb lb) (ca : Nt.canon la) (cb : Nt.canon lb) (sa : la.length ≤ 1000000) (sb : lb.length ≤ 1000000) :
    Calls Tryz.prog 77 #[va, vb] w fun e w' => ∃ v, e = .returned v ∧ Nv w' v (Nt.digs (Nt.val la * Nt.val lb)) ∧ Below w.heap.size w w' := by
  obtain ⟨A, c, rfl, a1, a2, a0, a3⟩ := ha.ex
  obtain ⟨A', c', rfl, b1, b2, b0, b3⟩ := hb.ex
  have CA := Lib.hid ca
  have CB := Lib.hid cb
  clear ha hb ca cb a0 b0
  go_enter Tryz.func77, Tryz.ntmps77
  go_wp2_with (at_make; refine wp_make0 rfl _ _ rfl w.heap.size _ _ (la.length + lb.length) rfl rfl ?_ ?_ ?_ (Nat.le_refl _) ?_; (go_num); (go_num); (omega); intro w1 ho1 hg1 hs1)
  have HO := Lib.hid ho1
  have HB1 := Lib.hid (below_made (Below.refl w.heap.size w) (Nat.le_refl _) hg1)
  clear ho1 hg1
  go_loopw [20] (fun s20 wr => ∃ (i : Nat) (O : List Nat), s20 = .int .i64 i ∧ i ≤ la.length ∧ Own wr w.heap.size (.slice (some ⟨w.heap.size, 0, none⟩) (la.length + lb.length) (la.length + lb.length)) O ∧ Nt.MulAt la lb O i ∧ Below w.heap.size w wr) (fun s20 _ => la.length - (intOf s20).toNat)
  case atStart => exact ⟨0, _, rfl, by omega, HO.out, Nt.MulAt.start la lb, HB1.out⟩
  case round =>
    obtain ⟨i, O, rfl, hi, hown, hmul, hbel⟩ := hrel
    by_cases hlt : i < la.length
    · obtain ⟨b, o, rfl, hb1, hb2⟩ := a3 (by omega)
      have hcx := (hbel.cell (p := ⟨b, o + i, none⟩) (by exact hb1)).trans (hb2 i hlt)
      have hx := CA.out.1 la[i] (List.getElem_mem hlt)
      have hrow := hmul.row la[i]
      have HR := Lib.hid hrow
      have HBel := Lib.hid hbel
      have HOwn := Lib.hid hown
      obtain ⟨x, ex⟩ : ∃ x, x = la[i] := ⟨_, rfl⟩
      rw [← ex] at hcx hx
      have EX := Lib.hid ex
      clear hrow hmul hbel hown hb2 a3 ex
      unfold Nt.B at hx
      obtain ⟨wo, rfl⟩ : ∃ wo : World, wo = wr := ⟨_, rfl⟩
      go_wp2
      go_loopw [8, 27] (fun s8 s27 wr => ∃ (k cr : Nat) (O : List Nat), s27 = .int .i64 k ∧ s8 = .int .u64 cr ∧ k ≤ lb.length ∧ Own wr w.heap.size (.slice (some ⟨w.heap.size, 0, none⟩) (la.length + lb.length) (la.length + lb.length)) O ∧ Nt.RowAt la lb O i x k cr ∧ Below w.heap.size w wr) (fun _ s27 _ => lb.length - (intOf s27).toNat)
      case atStart => exact ⟨0, 0, O, rfl, rfl, by omega, HOwn.out, by rw [EX.out]; exact HR.out, HBel.out⟩
      case round =>
        obtain ⟨k, cr, O2, rfl, rfl, hk, hown, hrow, hbel⟩ := hrel
        have hc1 := hrow.c1
        have HROW := Lib.hid hrow
        have HBel2 := Lib.hid hbel
        have HOwn2 := Lib.hid hown
        have HLen := Lib.hid hrow.len
        have hOl := hrow.len
        unfold Nt.B at hc1
        by_cases hlk : k < lb.length
        · obtain ⟨b', o', rfl, hb1', hb2'⟩ := b3 (by omega)
          have hcy := (hbel.cell (p := ⟨b', o' + k, none⟩) (by exact hb1')).trans (hb2' k hlk)
          have hy := CB.out.1 lb[k] (List.getElem_mem hlk)
          have hik : i + k < O2.length := by omega
          have hco := hown.cell' hOl hik
          have hfo := hown.frozen' hOl (i + k)
          have ho := hrow.dg O2[i + k] (List.getElem_mem hik)
          have hst := hrow.step (by unfold Nt.B; exact hx) CB.out.1 hlt hlk hik
          have HST := Lib.hid hst
          obtain ⟨y, ey⟩ : ∃ y, y = lb[k] := ⟨_, rfl⟩
          rw [← ey] at hcy hy
          have EY := Lib.hid ey
          have EZ := Lib.hid (rfl : O2[i + k] = O2[i + k])
          obtain ⟨z, ez⟩ : ∃ z, z = O2[i + k] := ⟨_, rfl⟩
          rw [← ez] at hco ho
          have EZ := Lib.hid ez
          unfold Nt.B at hy ho
          have hxy := mul_bound hx hy
          have hxy1 : (x : Int) * y ≤ 999999998000000001 := by
            have : ((x * y : Nat) : Int) ≤ 999999998000000001 := by omega
            rwa [Int.natCast_mul] at this
          have hxy0 : 0 ≤ (x : Int) * y := by
            have : (0 : Int) ≤ ((x * y : Nat) : Int) := by omega
            rwa [Int.natCast_mul] at this
          clear hrow hbel hown hb2' b3 hst hOl hxy ey ez
          go_wp2
          go_roundw
          case rel =>
            have h := HST.out
            rw [← EY.out, ← EZ.out] at h
            exact ⟨k + 1, (x * y + z + cr) / 1000000000, _, by go_num, by go_num, by omega, HOwn2.out.set' HLen.out (i + k) ((x * y + z + cr) % 1000000000) (by go_num), h, HBel2.out.setCell (by exact Nat.le_refl _) _⟩
          case measure => simp [intOf]; omega
        · obtain rfl : k = lb.length := by omega
          have hil : i + lb.length < O2.length := by omega
          have hco := hown.cell' hOl hil
          have hfo := hown.frozen' hOl (i + lb.length)
          have hdone := fun h => Nt.RowAt.done (O := O2) (c := cr) hlt h hil
          have HD := Lib.hid hdone
          clear hrow hbel hown b3 hOl hdone
          go_wp2
          go_roundw
          case rel =>
            refine ⟨i + 1, _, by go_num, by omega, HOwn2.out.set' HLen.out (i + lb.length) cr (by go_num), HD.out ?_, HBel2.out.setCell (by exact Nat.le_refl _) _⟩
            have h := HROW.out
            rw [EX.out] at h
            exact h
          case measure => simp [intOf]; omega
    · obtain rfl : i = la.length := by omega
      have hv := hmul.done
      have hnv := hown
      have hdg := hmul.dg
      have hol := hmul.len
      have e : Nt.trimL O = Nt.digs (Nt.val la * Nt.val lb) := by rw [← hv, ← Nt.digs_val (Nt.trimL_canon hdg), Nt.trimL_val hdg]
      have hnv : Nv wr (.slice (some ⟨w.heap.size, 0, none⟩) (la.length + lb.length) (la.length + lb.length)) O := by
        refine Own.nv (base := w.heap.size) ?_ (by omega)
        exact hown
      have htr := fun W => trim_any (.slice (some ⟨w.heap.size, 0, none⟩) (la.length + lb.length) (la.length + lb.length)) W O.length O rfl
      have HD := Lib.hid hdg
      have HT := Lib.hid htr
      have HE := Lib.hid e
      have HN := Lib.hid hnv
      have HBel := Lib.hid hbel
      clear hmul hv hnv htr e hown a3 b3 hbel hdg hol
      go_wp2_with (go_at_call 133; refine (HT.out _ HN.out HD.out).mono ?_; rintro e w2 ⟨v2, rfl, hn2, rfl⟩)
      go_ret
      exact ⟨v2, rfl, by rw [← HE.out]; exact hn2, HBel.out⟩
end Go.Proofs.YtigeipjkcidleaaGreatDoor
