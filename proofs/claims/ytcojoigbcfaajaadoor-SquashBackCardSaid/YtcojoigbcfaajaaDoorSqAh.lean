/- Plain: what is written in bits is read again. -/
import Derived.Test.YtcojoigbcfaajaaDoorSqAp
namespace Go.Proofs.YtcojoigbcfaajaaDoor
open Go.RowKit
namespace Sq
/-- A bit of bytes. -/
def bitB (l : List Nat) (i : Nat) : Nat := l.getD (i / 8) 0 / 2 ^ (7 - i % 8) % 2
/-- How many bits are written. -/
def pos (st : List Nat × Nat) : Nat := 8 * st.1.length - st.2
theorem bit_set_all : ∀ f : Fin 8, ∀ b : Fin 2, ∀ x : Fin 256, x.val % 2 ^ (f.val + 1) = 0 → ∀ j : Fin 8, (x.val + b.val * 2 ^ f.val) / 2 ^ (7 - j.val) % 2 = if j.val = 7 - f.val then b.val else if j.val < 7 - f.val then x.val / 2 ^ (7 - j.val) % 2 else 0 := by decide +kernel
theorem bit_tail_all : ∀ f : Fin 8, ∀ x : Fin 256, x.val % 2 ^ f.val = 0 → ∀ j : Fin 8, 7 - f.val < j.val → x.val / 2 ^ (7 - j.val) % 2 = 0 := by decide +kernel
theorem WOk.len {st : List Nat × Nat} (h : WOk st) : st.2 ≤ 8 * st.1.length ∧ (0 < st.2 → 0 < st.1.length) := by
  obtain ⟨h1, h2, -, -⟩ := h
  rcases Nat.eq_zero_or_pos st.1.length with h0 | h0
  · have := h2 (List.length_eq_zero_iff.1 h0)
    omega
  · omega
theorem pb_bits (st : List Nat × Nat) (b : Nat) (hb : b < 2) (h : WOk st) : pos (pb st b) = pos st + 1 ∧ bitB (pb st b).1 (pos st) = b ∧ ∀ i, i < pos st → bitB (pb st b).1 i = bitB st.1 i := by
  obtain ⟨l, f⟩ := st
  have hlen := h.len
  obtain ⟨h1, h2, h3, h4⟩ := h
  simp only [] at h1 h2 h3 h4 hlen
  unfold pb pos
  by_cases hf : f = 0
  · rw [if_pos hf]
    simp only [List.length_append, List.length_cons, List.length_nil]
    refine ⟨by omega, ?_, fun i hi => ?_⟩
    · unfold bitB
      rw [show (8 * l.length - f) / 8 = l.length by omega, show (8 * l.length - f) % 8 = 0 by omega, List.getD_eq_getElem?_getD, List.getElem?_append_right (by omega)]
      simp
      omega
    · unfold bitB
      rw [List.getD_eq_getElem?_getD, List.getElem?_append_left (by omega), ← List.getD_eq_getElem?_getD]
  · rw [if_neg hf]
    have hl : 0 < l.length := hlen.2 (by omega)
    obtain ⟨g, rfl⟩ : ∃ g, f = g + 1 := ⟨f - 1, by omega⟩
    obtain ⟨x, hx⟩ : ∃ x, x = l.getD (l.length - 1) 0 := ⟨_, rfl⟩
    rw [← hx] at h3 h4
    have hs := bit_set_all ⟨g, by omega⟩ ⟨b, hb⟩ ⟨x, h3⟩ h4
    simp only [] at hs
    have e1 : ∀ i, i / 8 = l.length - 1 → (l.set (l.length - 1) (x + b * 2 ^ g)).getD (i / 8) 0 = x + b * 2 ^ g := fun i hi => by
      rw [hi, List.getD_eq_getElem?_getD, List.getElem?_set_self (by omega)]
      rfl
    have e2 : ∀ i, i / 8 ≠ l.length - 1 → (l.set (l.length - 1) (x + b * 2 ^ g)).getD (i / 8) 0 = l.getD (i / 8) 0 := fun i hi => by
      rw [List.getD_eq_getElem?_getD, List.getElem?_set_ne (fun e => hi e.symm), List.getD_eq_getElem?_getD]
    dsimp only
    rw [← hx, Nat.add_sub_cancel, List.length_set]
    refine ⟨by omega, ?_, fun i hi => ?_⟩
    · unfold bitB
      rw [e1 _ (by omega)]
      have := hs ⟨(8 * l.length - (g + 1)) % 8, by omega⟩
      simp only [] at this
      rw [this, if_pos (by omega)]
    · unfold bitB
      by_cases hi8 : i / 8 = l.length - 1
      · rw [e1 i hi8]
        have := hs ⟨i % 8, by omega⟩
        simp only [] at this
        rw [this, if_neg (by omega), if_pos (by omega), hx, hi8]
      · rw [e2 i hi8]
theorem putF_bits (k : Nat) : ∀ (n : Nat) (st : List Nat × Nat), WOk st → Byt st.1 → pos (putF k n st) = pos st + n ∧ (∀ j, j < n → bitB (putF k n st).1 (pos st + j) = k / 2 ^ (n - 1 - j) % 2) ∧ ∀ i, i < pos st → bitB (putF k n st).1 i = bitB st.1 i
  | 0, st, _, _ => ⟨rfl, fun j hj => absurd hj (by omega), fun _ _ => rfl⟩
  | n + 1, st, h, hB => by
    have hb : k / 2 ^ n % 2 < 2 := Nat.mod_lt _ (by decide)
    have ok := pb_ok st (k / 2 ^ n % 2) hb h hB
    obtain ⟨a1, a2, a3⟩ := pb_bits st (k / 2 ^ n % 2) hb h
    obtain ⟨b1, b2, b3⟩ := putF_bits k n (pb st (k / 2 ^ n % 2)) ok.1 ok.2
    rw [putF]
    refine ⟨by omega, fun j hj => ?_, fun i hi => by rw [b3 i (by omega), a3 i hi]⟩
    cases j with
    | zero => rw [Nat.add_zero, b3 _ (by omega), a2, Nat.add_sub_cancel, Nat.sub_zero]
    | succ j =>
      have := b2 j (by omega)
      rw [a1] at this
      rw [show pos st + (j + 1) = pos st + 1 + j by omega, this, show n + 1 - 1 - (j + 1) = n - 1 - j by omega]
/-- The bits that fill the last byte are zero. -/
theorem tail_zero (st : List Nat × Nat) (h : WOk st) (i : Nat) (h1 : pos st ≤ i) (h2 : i < 8 * st.1.length) : bitB st.1 i = 0 := by
  have hlen := h.len
  obtain ⟨h3, h4, h5, h6⟩ := h
  unfold pos at h1
  have := bit_tail_all ⟨st.2, by omega⟩ ⟨_, h5⟩ h6 ⟨i % 8, by omega⟩ (by show 7 - st.2 < i % 8; omega)
  simp only [] at this
  unfold bitB
  rw [show i / 8 = st.1.length - 1 by omega]
  exact this
/-- A string holds the bits that are written, from a place on. -/
def Has (r : ByteArray) (sft : Nat) (st : List Nat × Nat) : Prop := ∀ i, sft ≤ i → i < pos st → bitN r (i - sft) = bitB st.1 i
theorem Has.before {r : ByteArray} {sft k n : Nat} {st : List Nat × Nat} (h : Has r sft (putF k n st)) (hw : WOk st) (hB : Byt st.1) : Has r sft st := fun i h1 h2 => by
  obtain ⟨a1, _, a3⟩ := putF_bits k n st hw hB
  rw [h i h1 (by omega), a3 i h2]
theorem Has.bit {r : ByteArray} {sft k n : Nat} {st : List Nat × Nat} (h : Has r sft (putF k n st)) (hw : WOk st) (hB : Byt st.1) (hs : sft ≤ pos st) (j : Nat) (hj : j < n) : bitN r (pos st - sft + j) = k / 2 ^ (n - 1 - j) % 2 := by
  obtain ⟨a1, a2, _⟩ := putF_bits k n st hw hB
  have := h (pos st + j) (by omega) (by omega)
  rw [show pos st + j - sft = pos st - sft + j by omega] at this
  rw [this, a2 j hj]
theorem mod_two_step (q m : Nat) : 2 * (q / 2 % m) + q % 2 = q % (m * 2) := by
  rw [Nat.mul_comm m 2, Nat.mod_mul]
  omega
theorem num_bits (r : ByteArray) (p k n : Nat) (h : ∀ j, j < n → bitN r (p + j) = k / 2 ^ (n - 1 - j) % 2) : ∀ j, j ≤ n → numN r p j = k / 2 ^ (n - j) % 2 ^ j
  | 0, _ => by rw [numN, Nat.pow_zero, Nat.mod_one]
  | j + 1, hj => by
    have ih := num_bits r p k n h j (by omega)
    rw [numN, ih, h j (by omega), show n - 1 - j = n - (j + 1) by omega]
    have e : k / 2 ^ (n - j) = k / 2 ^ (n - (j + 1)) / 2 := by
      rw [Nat.div_div_eq_div_mul, ← Nat.pow_succ, show (n - (j + 1)).succ = n - j by omega]
    rw [e]
    generalize k / 2 ^ (n - (j + 1)) = q
    rw [Nat.pow_succ]
    exact mod_two_step q (2 ^ j)
theorem Has.num {r : ByteArray} {sft k n : Nat} {st : List Nat × Nat} (h : Has r sft (putF k n st)) (hw : WOk st) (hB : Byt st.1) (hs : sft ≤ pos st) (hk : k < 2 ^ n) : numN r (pos st - sft) n = k := by
  rw [num_bits r (pos st - sft) k n (fun j hj => h.bit hw hB hs j hj) n (Nat.le_refl _), Nat.sub_self, Nat.pow_zero, Nat.div_one, Nat.mod_eq_of_lt hk]
end Sq
end Go.Proofs.YtcojoigbcfaajaaDoor
