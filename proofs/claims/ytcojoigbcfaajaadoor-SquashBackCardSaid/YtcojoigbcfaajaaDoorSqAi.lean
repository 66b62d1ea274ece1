/- Plain: a symbol's code is read as the symbol. -/
import Derived.Test.YtcojoigbcfaajaaDoorSqAh
import Derived.Test.YtcojoigbcfaajaaDoorSqAe
namespace Go.Proofs.YtcojoigbcfaajaaDoor
open Go.RowKit
namespace Sq
theorem fst_up (L : Nat → Nat) (n : Nat) : ∀ d, (fst L n + ct L n) * 2 ^ (d + 1) ≤ fst L (n + d + 1)
  | 0 => by rw [Nat.zero_add, Nat.pow_one, Nat.add_zero, fst, Nat.mul_comm]; exact Nat.le_refl _
  | d + 1 => by
    have ih := fst_up L n d
    have e : fst L (n + (d + 1) + 1) = 2 * (fst L (n + d + 1) + ct L (n + d + 1)) := by rw [show n + (d + 1) + 1 = n + d + 1 + 1 by omega, fst]
    rw [e, Nat.pow_succ, ← Nat.mul_assoc]
    omega
theorem sy_get (L : Nat → Nat) (x : Nat) (hx : x < 272) : (sy L (L x) 272).getD (sy L (L x) x).length 0 = x := by
  have h : ∀ k, x + 1 + k ≤ 272 → (sy L (L x) (x + 1 + k)).getD (sy L (L x) x).length 0 = x := fun k => by
    induction k with
    | zero =>
      intro _
      rw [Nat.add_zero, sy_step, if_pos rfl, List.getD_eq_getElem?_getD, List.getElem?_append_right (Nat.le_refl _), Nat.sub_self]
      rfl
    | succ k ih =>
      intro hk
      have ih := ih (by omega)
      rw [← Nat.add_assoc, sy_step]
      split
      · have hp := sy_mono L (L x) (x + 1) k
        rw [sy_step, if_pos rfl, List.length_append] at hp
        simp only [List.length_cons, List.length_nil] at hp
        rw [List.getD_eq_getElem?_getD, List.getElem?_append_left (by omega), ← List.getD_eq_getElem?_getD]
        exact ih
      · exact ih
  have := h (272 - (x + 1)) (by omega)
  rwa [show x + 1 + (272 - (x + 1)) = 272 by omega] at this
/-- The decoder reads the bits of a symbol's code. -/
theorem symG_code (L : Nat → Nat) (r : ByteArray) (x : Nat) (hx : x < 272) (h1 : 1 ≤ L x) (h15 : L x ≤ 15) (p : Nat) (hp : p + L x ≤ 8 * r.size) (hb : ∀ j, j < L x → bitN r (p + j) = cd L x / 2 ^ (L x - 1 - j) % 2) :
    ∀ d n, n + d = L x → 1 ≤ n → symG L r (16 - n) n (cd L x / 2 ^ (d + 1)) (p + (n - 1)) = (0, x, p + L x) := by
  have hcd : cd L x = fst L (L x) + (sy L (L x) x).length := if_pos ⟨h1, h15⟩
  have hct : ct L (L x) = (sy L (L x) 272).length := if_neg (by omega)
  have hlt := sy_pos L x hx
  intro d
  induction d with
  | zero =>
    intro n hn h0
    have hn2 : n = L x := by omega
    rw [show 16 - n = (15 - n) + 1 by omega, symG, if_pos (by omega)]
    have hbit := hb (n - 1) (by omega)
    rw [show L x - 1 - (n - 1) = 0 by omega, Nat.pow_zero, Nat.div_one] at hbit
    have e : 2 * (cd L x / 2 ^ (0 + 1)) + bitN r (p + (n - 1)) = cd L x := by rw [hbit, Nat.zero_add, Nat.pow_one]; omega
    rw [e, hn2, if_pos ⟨by omega, by omega⟩, show cd L x - fst L (L x) = (sy L (L x) x).length by omega, sy_get L x hx]
    rw [show p + (L x - 1) + 1 = p + L x by omega]
  | succ d ih =>
    intro n hn h0
    rw [show 16 - n = (15 - n) + 1 by omega, symG, if_pos (by omega)]
    have hbit := hb (n - 1) (by omega)
    rw [show L x - 1 - (n - 1) = d + 1 by omega] at hbit
    have e : 2 * (cd L x / 2 ^ (d + 1 + 1)) + bitN r (p + (n - 1)) = cd L x / 2 ^ (d + 1) := by
      rw [hbit, Nat.pow_succ 2 (d + 1), ← Nat.div_div_eq_div_mul]
      omega
    have hup := fst_up L n d
    rw [show n + d + 1 = L x by omega] at hup
    have hge : fst L n + ct L n ≤ cd L x / 2 ^ (d + 1) := (Nat.le_div_iff_mul_le (Nat.two_pow_pos _)).2 (by omega)
    rw [e, if_neg (by omega)]
    have := ih (n + 1) (by omega) (by omega)
    rw [show 16 - (n + 1) = 15 - n by omega, show p + (n + 1 - 1) = p + (n - 1) + 1 by omega] at this
    exact this
theorem symF_code (L : Nat → Nat) (hk : smT L 16 ≤ 32768) (r : ByteArray) (x : Nat) (hx : x < 272) (h1 : 1 ≤ L x) (h15 : L x ≤ 15) (p : Nat) (hp : p + L x ≤ 8 * r.size) (hb : ∀ j, j < L x → bitN r (p + j) = cd L x / 2 ^ (L x - 1 - j) % 2) : symF L r p = (0, x, p + L x) := by
  have h := symG_code L r x hx h1 h15 p hp hb (L x - 1) 1 (by omega) (Nat.le_refl _)
  have hc : cd L x < 2 ^ L x := by
    have h2 := kraft_fst L hk (L x) h15
    have h3 : cd L x = fst L (L x) + (sy L (L x) x).length := if_pos ⟨h1, h15⟩
    have h4 : ct L (L x) = (sy L (L x) 272).length := if_neg (by omega)
    have := sy_pos L x hx
    omega
  rw [show L x - 1 + 1 = L x by omega, Nat.div_eq_of_lt hc] at h
  exact h
/-- The decoder looks at the lengths of the symbols alone. -/
theorem sy_congr {L L' : Nat → Nat} (h : ∀ x, x < 272 → L x = L' x) (n : Nat) : sy L n 272 = sy L' n 272 := by
  unfold sy
  refine List.filter_congr fun x hx => ?_
  rw [h x (List.mem_range.1 hx)]
theorem ct_congr {L L' : Nat → Nat} (h : ∀ x, x < 272 → L x = L' x) (n : Nat) : ct L n = ct L' n := by unfold ct; rw [sy_congr h]
theorem fst_congr {L L' : Nat → Nat} (h : ∀ x, x < 272 → L x = L' x) : ∀ n, fst L n = fst L' n
  | 0 => rfl
  | n + 1 => by rw [fst, fst, fst_congr h n, ct_congr h]
theorem smT_congr {L L' : Nat → Nat} (h : ∀ x, x < 272 → L x = L' x) : ∀ n, smT L n = smT L' n
  | 0 => rfl
  | n + 1 => by rw [smT, smT, smT_congr h n, ct_congr h]
theorem symG_congr {L L' : Nat → Nat} (h : ∀ x, x < 272 → L x = L' x) (s : ByteArray) : ∀ k n c p, symG L s k n c p = symG L' s k n c p
  | 0, _, _, _ => rfl
  | k + 1, n, c, p => by rw [symG, symG, fst_congr h, ct_congr h, sy_congr h, symG_congr h s k]
theorem symF_congr {L L' : Nat → Nat} (h : ∀ x, x < 272 → L x = L' x) (s : ByteArray) (p : Nat) : symF L s p = symF L' s p := symG_congr h s _ _ _ _
theorem unpG_congr {L L' : Nat → Nat} (h : ∀ x, x < 272 → L x = L' x) (s : ByteArray) (n : Nat) : ∀ k o p, unpG L s n k o p = unpG L' s n k o p
  | 0, _, _ => rfl
  | k + 1, o, p => by
    rw [unpG, unpG, symF_congr h]
    simp only [unpG_congr h s n k]
theorem unpF_congr {L L' : Nat → Nat} (h : ∀ x, x < 272 → L x = L' x) (s : ByteArray) (n p : Nat) : unpF L s n p = unpF L' s n p := by
  unfold unpF
  rw [unpG_congr h]
/-- Tokens that turn bytes into bytes. -/
inductive Runs : List Nat → List Tok → List Nat → Prop
  | nil (o : List Nat) : Runs o [] o
  | lit {o o' : List Nat} {T : List Tok} (y : Nat) (h : y < 256) : Runs (o ++ [y]) T o' → Runs o ((y, 0, 0, 0) :: T) o'
  | mat {o o' : List Nat} {T : List Tok} (y a x b : Nat) (h1 : 256 ≤ y) (h2 : y < 272) (hx : (spn y).2 = x) (ha : a < 2 ^ x) (hb : b + 1 ≤ o.length) (hb2 : b < 32768) : Runs (cpy o (o.length - (b + 1)) (spB y + a)) T o' → Runs o ((y, a, x, b) :: T) o'
theorem Runs.mono {o o' : List Nat} {T : List Tok} (h : Runs o T o') : o.length ≤ o'.length := by
  induction h with
  | nil => exact Nat.le_refl _
  | lit y h _ ih => rw [List.length_append] at ih; omega
  | mat y a x b h1 h2 hx ha hb hb2 _ ih => rw [cpy_len] at ih; omega
theorem foldl_ok (L : Nat → Nat) : ∀ (l : List Tok) (st : List Nat × Nat), WOk st → Byt st.1 → WOk (l.foldl (ptT L) st) ∧ Byt (l.foldl (ptT L) st).1
  | [], _, h, hB => ⟨h, hB⟩
  | t :: l, st, h, hB => by
    rw [List.foldl_cons]
    have h1 := putF_ok (cd L t.1) (L t.1) st h hB
    by_cases hc : 256 ≤ t.1
    · have h2 := putF_ok t.2.1 t.2.2.1 _ h1.1 h1.2
      have h3 := putF_ok t.2.2.2 15 _ h2.1 h2.2
      have e : ptT L st t = putF t.2.2.2 15 (putF t.2.1 t.2.2.1 (putF (cd L t.1) (L t.1) st)) := if_pos hc
      rw [e]
      exact foldl_ok L l _ h3.1 h3.2
    · have e : ptT L st t = putF (cd L t.1) (L t.1) st := if_neg hc
      rw [e]
      exact foldl_ok L l _ h1.1 h1.2
theorem foldl_before (L : Nat → Nat) {r : ByteArray} {sft : Nat} : ∀ (l : List Tok) (st : List Nat × Nat), WOk st → Byt st.1 → Has r sft (l.foldl (ptT L) st) → Has r sft st ∧ pos st ≤ pos (l.foldl (ptT L) st)
  | [], _, _, _, h => ⟨h, Nat.le_refl _⟩
  | t :: l, st, hw, hB, h => by
    rw [List.foldl_cons] at h ⊢
    have h1 := putF_ok (cd L t.1) (L t.1) st hw hB
    have p1 := (putF_bits (cd L t.1) (L t.1) st hw hB).1
    by_cases hc : 256 ≤ t.1
    · have h2 := putF_ok t.2.1 t.2.2.1 _ h1.1 h1.2
      have p2 := (putF_bits t.2.1 t.2.2.1 _ h1.1 h1.2).1
      have h3 := putF_ok t.2.2.2 15 _ h2.1 h2.2
      have p3 := (putF_bits t.2.2.2 15 _ h2.1 h2.2).1
      have e : ptT L st t = putF t.2.2.2 15 (putF t.2.1 t.2.2.1 (putF (cd L t.1) (L t.1) st)) := if_pos hc
      rw [e] at h ⊢
      have ih := foldl_before L l _ h3.1 h3.2 h
      exact ⟨((ih.1.before h2.1 h2.2).before h1.1 h1.2).before hw hB, by omega⟩
    · have e : ptT L st t = putF (cd L t.1) (L t.1) st := if_neg hc
      rw [e] at h ⊢
      have ih := foldl_before L l _ h1.1 h1.2 h
      exact ⟨ih.1.before hw hB, by omega⟩
end Sq
end Go.Proofs.YtcojoigbcfaajaaDoor
