/- Plain: what the writer of bits keeps. -/
import Derived.Test.YtcojoigbcfaajaaDoorSqAe
import Derived.Test.YtcojoigbcfaajaaDoorSqO
namespace Go.Proofs.YtcojoigbcfaajaaDoor
open Go.RowKit
namespace Sq
theorem pb_len (st : List Nat × Nat) (b : Nat) : (pb st b).1.length ≤ st.1.length + 1 := by
  unfold pb
  split
  · rw [List.length_append]; simp
  · dsimp only; rw [List.length_set]; omega
theorem putF_len (k : Nat) : ∀ (n : Nat) (st : List Nat × Nat), (putF k n st).1.length ≤ st.1.length + n
  | 0, _ => Nat.le_refl _
  | n + 1, st => by
    have h1 := putF_len k n (pb st (k / 2 ^ n % 2))
    have h2 := pb_len st (k / 2 ^ n % 2)
    rw [putF]
    omega
theorem bit_fits : ∀ f : Fin 8, ∀ b : Fin 2, ∀ x : Fin 256, x.val % 2 ^ (f.val + 1) = 0 → x.val + b.val * 2 ^ f.val < 256 ∧ (x.val + b.val * 2 ^ f.val) % 2 ^ f.val = 0 := by decide +kernel
theorem pb_ok (st : List Nat × Nat) (b : Nat) (hb : b < 2) (h : WOk st) (hB : Byt st.1) : WOk (pb st b) ∧ Byt (pb st b).1 := by
  obtain ⟨l, f⟩ := st
  obtain ⟨h1, h2, h3, h4⟩ := h
  simp only [] at h1 h2 h3 h4 hB
  unfold pb
  by_cases hf : f = 0
  · rw [if_pos hf]
    have e : (l ++ [b * 128]).getD ((l ++ [b * 128]).length - 1) 0 = b * 128 := by
      rw [List.length_append, List.getD_eq_getElem?_getD, List.getElem?_append_right (by simp)]
      simp
    refine ⟨⟨by show 7 ≤ 7; omega, fun h => absurd h (by simp), ?_, ?_⟩, hB.one (by omega)⟩
    · show (l ++ [b * 128]).getD ((l ++ [b * 128]).length - 1) 0 < 256
      rw [e]; omega
    · show (l ++ [b * 128]).getD ((l ++ [b * 128]).length - 1) 0 % 2 ^ 7 = 0
      rw [e]; omega
  · rw [if_neg hf]
    have hl : 0 < l.length := by
      rcases Nat.eq_zero_or_pos l.length with h0 | h0
      · exact absurd (h2 (List.length_eq_zero_iff.1 h0)) hf
      · exact h0
    obtain ⟨g, rfl⟩ : ∃ g, f = g + 1 := ⟨f - 1, by omega⟩
    obtain ⟨x, hx⟩ : ∃ x, x = l.getD (l.length - 1) 0 := ⟨_, rfl⟩
    rw [← hx] at h3 h4
    have hfit := bit_fits ⟨g, by omega⟩ ⟨b, hb⟩ ⟨x, h3⟩ h4
    simp only [] at hfit
    have e : (l.set (l.length - 1) (x + b * 2 ^ g)).getD ((l.set (l.length - 1) (x + b * 2 ^ g)).length - 1) 0 = x + b * 2 ^ g := by
      rw [List.length_set, List.getD_eq_getElem?_getD, List.getElem?_set_self (by omega)]
      rfl
    show WOk (l.set (l.length - 1) (l.getD (l.length - 1) 0 + b * 2 ^ (g + 1 - 1)), g + 1 - 1) ∧ Byt (l.set (l.length - 1) (l.getD (l.length - 1) 0 + b * 2 ^ (g + 1 - 1)))
    rw [← hx, Nat.add_sub_cancel]
    refine ⟨⟨by show g ≤ 7; omega, fun h => ?_, ?_, ?_⟩, fun y hy => ?_⟩
    · have : (l.set (l.length - 1) (x + b * 2 ^ g)).length = 0 := by rw [show l.set (l.length - 1) (x + b * 2 ^ g) = [] from h]; rfl
      rw [List.length_set] at this
      omega
    · show (l.set (l.length - 1) (x + b * 2 ^ g)).getD ((l.set (l.length - 1) (x + b * 2 ^ g)).length - 1) 0 < 256
      rw [e]; exact hfit.1
    · show (l.set (l.length - 1) (x + b * 2 ^ g)).getD ((l.set (l.length - 1) (x + b * 2 ^ g)).length - 1) 0 % 2 ^ g = 0
      rw [e]; exact hfit.2
    · rcases List.mem_or_eq_of_mem_set hy with h | h
      · exact hB y h
      · rw [h]; exact hfit.1
theorem putF_ok (k : Nat) : ∀ (n : Nat) (st : List Nat × Nat), WOk st → Byt st.1 → WOk (putF k n st) ∧ Byt (putF k n st).1
  | 0, _, h, hB => ⟨h, hB⟩
  | n + 1, st, h, hB => by
    have := pb_ok st (k / 2 ^ n % 2) (Nat.mod_lt _ (by decide)) h hB
    exact putF_ok k n _ this.1 this.2
theorem pb_pos (st : List Nat × Nat) (b : Nat) : st.1.length ≤ (pb st b).1.length := by
  unfold pb
  split
  · rw [List.length_append]; omega
  · dsimp only; rw [List.length_set]; exact Nat.le_refl _
theorem putF_mono (k : Nat) : ∀ (n : Nat) (st : List Nat × Nat), st.1.length ≤ (putF k n st).1.length
  | 0, _ => Nat.le_refl _
  | n + 1, _st => Nat.le_trans (pb_pos _ _) (putF_mono k n _)
theorem hdG_pos (L : Nat → Nat) : ∀ i, 0 < (hdG L (i + 1)).1.length
  | 0 => by
    show 0 < (putF (L 0) 4 ([], 0)).1.length
    refine Nat.lt_of_lt_of_le ?_ (putF_mono (L 0) 3 (pb ([], 0) (L 0 / 2 ^ 3 % 2)))
    unfold pb
    rw [if_pos rfl]
    exact Nat.one_pos
  | i + 1 => Nat.lt_of_lt_of_le (hdG_pos L i) (putF_mono _ _ _)
theorem ptT_mono (L : Nat → Nat) (st : List Nat × Nat) (t : Tok) : st.1.length ≤ (ptT L st t).1.length := by
  unfold ptT
  split
  · exact Nat.le_trans (putF_mono _ _ _) (Nat.le_trans (putF_mono _ _ _) (putF_mono _ _ _))
  · exact putF_mono _ _ _
theorem fold_mono (L : Nat → Nat) : ∀ (l : List Tok) (st : List Nat × Nat), st.1.length ≤ (l.foldl (ptT L) st).1.length
  | [], _ => Nat.le_refl _
  | t :: r, st => Nat.le_trans (ptT_mono L st t) (fold_mono L r _)
theorem WOk0 : WOk ([], 0) := ⟨by decide, fun _ => rfl, by decide, by decide⟩
theorem toB_app (a : List Nat) (s : ByteArray) : toB (a ++ s.data.toList.map UInt8.toNat) = toB a ++ s := by
  have h : ∀ x y : ByteArray, x.data = y.data → x = y := fun x y h => by cases x; cases y; cases h; rfl
  apply h
  rw [ByteArray.data_append]
  show ((a ++ s.data.toList.map UInt8.toNat).map UInt8.ofNat).toArray = (a.map UInt8.ofNat).toArray ++ s.data
  rw [List.map_append, List.map_map]
  have : (s.data.toList.map (UInt8.ofNat ∘ UInt8.toNat)) = s.data.toList := by
    conv => rhs; rw [← List.map_id s.data.toList]
    refine List.map_congr_left fun x _ => ?_
    simp
  rw [this]
  apply Array.ext'
  simp
end Sq
end Go.Proofs.YtcojoigbcfaajaaDoor
