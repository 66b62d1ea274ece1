/- Plain: the mixed array; its records. -/
import Derived.Test.YtmapagbmihpbmaaGreatDoorGp
import Derived.Test.YtmapagbmihpbmaaGreatDoorGq
import Derived.Test.YtmapagbmihpbmaaGreatDoorPvU
set_option linter.unusedSimpArgs false
set_option linter.unusedVariables false
namespace Go.Proofs.YtmapagbmihpbmaaGreatDoor
open Go.RowKit

def xAt (Z : List Int) (i : Nat) : Int := if h : i < Z.length then Z[i] else (i : Int)
def wdL : Nat → ByteArray
  | 0 => ⟨#[97]⟩
  | 1 => ⟨#[98]⟩
  | 2 => ⟨#[65]⟩
  | _ => ⟨#[99]⟩
def headT : ByteArray := ⟨#[104, 101, 97, 100]⟩
def itm (cols : Nat) (Z : List Int) (i : Nat) : Vl := if i < cols then tV ⟨#[104, 101, 97, 100]⟩ else if i % cols = cols - 1 then nV (xAt Z i % 50).toNat else tV (wdL (xAt Z i % 4).toNat)
def itms (cols : Nat) (Z : List Int) (n : Nat) : List Vl := (List.range n).map (itm cols Z)
theorem itms_len (cols : Nat) (Z : List Int) (n : Nat) : (itms cols Z n).length = n := by simp [itms]
theorem itms_get (cols : Nat) (Z : List Int) (n i : Nat) (h : i < n) : (itms cols Z n)[i]! = itm cols Z i := by
  rw [getElem!_pos _ i (by rw [itms_len]; exact h)]
  simp [itms]
theorem wd_txt (k : Nat) : txtE (wdL k) = 0 := by
  match k with
  | 0 => decide +kernel
  | 1 => decide +kernel
  | 2 => decide +kernel
  | k + 3 => exact (show txtE ⟨#[99]⟩ = 0 by decide +kernel)
theorem head_txt : txtE ⟨#[104, 101, 97, 100]⟩ = 0 := by decide +kernel
theorem wd_size (k : Nat) : (wdL k).size ≤ 9223372036854775807 := by
  match k with
  | 0 => decide
  | 1 => decide
  | 2 => decide
  | k + 3 => exact (show (⟨#[99]⟩ : ByteArray).size ≤ _ by decide)
theorem n50 (x : Int) : (x % 50).toNat < 50 := by omega
theorem itm_ok (cols : Nat) (Z : List Int) (i : Nat) : (itm cols Z i).ok := by
  unfold itm
  split
  · exact tval_ok head_txt
  · split
    · exact nV_ok _ (by have := n50 (xAt Z i); omega)
    · exact tval_ok (wd_txt _)
theorem itm_sz (cols : Nat) (Z : List Int) (i : Nat) : (itm cols Z i).sz := by
  unfold itm
  split
  · exact ⟨by decide, by decide, by decide⟩
  · split
    · exact ⟨Nat.le_trans (nt_size _ (by have := n50 (xAt Z i); omega)) (by decide), (show (⟨#[49]⟩ : ByteArray).size ≤ 9223372036854775807 by decide), (show (⟨#[]⟩ : ByteArray).size ≤ 9223372036854775807 by decide)⟩
    · exact ⟨(show (⟨#[]⟩ : ByteArray).size ≤ 9223372036854775807 by decide), (show (⟨#[]⟩ : ByteArray).size ≤ 9223372036854775807 by decide), wd_size _⟩
theorem itms_all (cols : Nat) (Z : List Int) (n : Nat) : ∀ u ∈ itms cols Z n, u.ok ∧ u.sz := fun u hu => by
  obtain ⟨i, -, rfl⟩ := List.mem_map.1 hu
  exact ⟨itm_ok _ _ _, itm_sz _ _ _⟩
theorem itm_num (Z : List Int) (i : Nat) : itm 3 Z ((i + 1) * 3 + 2) = nV (xAt Z ((i + 1) * 3 + 2) % 50).toNat := by
  unfold itm
  rw [if_neg (by omega), if_pos (by omega)]
end Go.Proofs.YtmapagbmihpbmaaGreatDoor

namespace Go.Proofs.YtmapagbmihpbmaaGreatDoor
open Go.RowKit

def fH (N : Rm → Nat) (how : Int) : Rm → Nat := fun r => if how = 1 then 1 else N r
theorem resN_eq (N : Rm → Nat) (how : Int) (L : List Rm) : resN N how L = Pv.sm (fH N how) L := by
  unfold resN fH
  by_cases h : how = 1
  · rw [if_pos h, ← Pv.sm_one L]
    congr 1
    funext r
    rw [if_pos h]
  · rw [if_neg h]
    congr 1
    funext r
    rw [if_neg h]
/-- The number of a record. -/
def numR (Z : List Int) (r : Rm) : Nat := (xAt Z (r.at_ * 3 + 2) % 50).toNat
theorem recs_num (Z : List Int) (cr cl R : Nat) : ∀ r ∈ recsP (itms 3 Z ((R + 1) * 3)) cr cl R, r.v = nV (numR Z r) ∧ numR Z r ≤ 50 := fun r hr => by
  obtain ⟨i, hi, rfl⟩ := List.mem_map.1 hr
  have hi := List.mem_range.1 hi
  refine ⟨?_, ?_⟩
  · show (itms 3 Z ((R + 1) * 3))[(i + 1) * 3 + 2]! = _
    rw [itms_get _ _ _ _ (by omega), itm_num]
    rfl
  · unfold numR
    omega
section
variable (N : Rm → Nat) (how : Int) (L : List Rm) (n m : Nat)
theorem row_sum (h : ∀ r ∈ L, r.col < m) (i : Nat) : Pv.tot (fun k => resN N how (grM L i k)) m = resN N how (Pv.gr1 Rm.row L i) := by
  simp only [resN_eq]
  exact Pv.rows_up Rm.row Rm.col L m (fH N how) h i
theorem all_sum (h : ∀ r ∈ L, r.row < n) : Pv.tot (fun i => resN N how (Pv.gr1 Rm.row L i)) n = resN N how L := by
  simp only [resN_eq]
  exact Pv.all_up Rm.row L n (fH N how) h
theorem col_sum (h : ∀ r ∈ L, r.col < m) : Pv.tot (fun k => resN N how (Pv.gr1 Rm.col L k)) m = resN N how L := by
  simp only [resN_eq]
  exact Pv.all_up Rm.col L m (fH N how) h
theorem seen_sum (h1 : ∀ r ∈ L, r.row < n) (h2 : ∀ r ∈ L, r.col < m) : Pv.tot (fun i => Pv.tot (fun k => (grM L i k).length) m) n = L.length := by
  have e1 : ∀ i, Pv.tot (fun k => (grM L i k).length) m = (Pv.gr1 Rm.row L i).length := fun i => by
    have := row_sum (fun _ => 0) 1 L m h2 i
    simpa [resN] using this
  simp only [e1]
  have := all_sum (fun _ => 0) 1 L n h1
  simpa [resN] using this
theorem tot_le {g : Nat → Nat} {c : Nat} : ∀ n, (∀ k, k < n → g k ≤ c) → Pv.tot g n ≤ c * n
  | 0, _ => Nat.zero_le _
  | n + 1, h => by
    have := tot_le n fun k hk => h k (by omega)
    have := h n (Nat.lt_succ_self n)
    rw [Pv.tot, Nat.mul_add]
    omega
theorem resN_le (hN : ∀ r ∈ L, N r ≤ 50) (hl : L.length ≤ 14) : resN N how L ≤ 700 := by
  rw [resN_eq]
  have := Pv.sm_le (fH N how) 50 L (fun r hr => by
    unfold fH
    split
    · decide
    · exact hN r hr)
  omega
theorem tot_mono {g : Nat → Nat} : ∀ a b, a ≤ b → Pv.tot g a ≤ Pv.tot g b
  | a, 0, h => by rw [Nat.le_zero.1 h]; exact Nat.le_refl _
  | a, b + 1, h => by
    rcases Nat.lt_or_ge b a with h2 | h2
    · rw [show a = b + 1 by omega]; exact Nat.le_refl _
    · exact Nat.le_trans (tot_mono a b h2) (by rw [Pv.tot]; omega)
end
theorem cell_at (N : Rm → Nat) (how : Int) (L : List Rm) (m i k : Nat) (hk : k < m) : cellV N how L m (i * m + k) = if (grM L i k).length = 0 then zV else nV (resN N how (grM L i k)) := by
  have h1 : (i * m + k) / m = i := by rw [Nat.add_comm, Nat.add_mul_div_right _ _ (by omega), Nat.div_eq_of_lt hk, Nat.zero_add]
  have h2 : (i * m + k) % m = k := by rw [Nat.add_comm, Nat.add_mul_mod_self_right, Nat.mod_eq_of_lt hk]
  unfold cellV
  rw [h1, h2]
theorem resN_nil (N : Rm → Nat) (how : Int) (L : List Rm) (h : L.length = 0) : resN N how L = 0 := by
  obtain rfl := List.eq_nil_of_length_eq_zero h
  unfold resN
  split <;> rfl
/-- The numbers of a table, by name. -/
structure TabN (n m R T : Nat) (LN CN : Nat → Nat → Nat) (RN KN : Nat → Nat) : Prop where
  rs : ∀ i, Pv.tot (CN i) m = RN i
  as_ : Pv.tot RN n = T
  cs : Pv.tot KN m = T
  se : Pv.tot (fun i => Pv.tot (LN i) m) n = R
  z : ∀ i k, LN i k = 0 → CN i k = 0
  le : T ≤ 700
theorem tot_step (g : Nat → Nat) (n : Nat) : Pv.tot g (n + 1) = Pv.tot g n + g n := rfl
section
variable {n m R T : Nat} {LN CN : Nat → Nat → Nat} {RN KN : Nat → Nat} (h : TabN n m R T LN CN RN KN)
include h
theorem TabN.rn {i : Nat} (hi : i < n) : Pv.tot RN i + RN i ≤ 700 := by
  have := tot_mono (g := RN) (i + 1) n hi
  rw [tot_step] at this
  have := h.as_
  have := h.le
  omega
theorem TabN.cn {i k : Nat} (hi : i < n) (hk : k < m) : Pv.tot (CN i) k + CN i k ≤ 700 := by
  have h1 := tot_mono (g := CN i) (k + 1) m hk
  rw [tot_step, h.rs] at h1
  have := h.rn hi
  omega
theorem TabN.kn {k : Nat} (hk : k < m) : Pv.tot KN k + KN k ≤ 700 := by
  have := tot_mono (g := KN) (k + 1) m hk
  rw [tot_step] at this
  have := h.cs
  have := h.le
  omega
theorem TabN.ln {i k : Nat} (hi : i < n) (hk : k < m) : Pv.tot (fun i => Pv.tot (LN i) m) i + Pv.tot (LN i) k + LN i k ≤ R := by
  have h1 := tot_mono (g := LN i) (k + 1) m hk
  have h2 := tot_mono (g := fun i => Pv.tot (LN i) m) (i + 1) n hi
  rw [tot_step] at h1 h2
  have := h.se
  omega
end
theorem reads_at {w : World} {A : Option Addr} {n c : Nat} {f : Nat → Vl} (h : Reads 9 csV w (.slice A n c) ((List.range n).map f)) : ∀ i, i < n → ∃ b o, A = some ⟨b, o, none⟩ ∧ ∀ W, Below w.heap.size w W → ∀ p, p < 9 → W.cell? ⟨b, o + i * 9 + p, none⟩ = ((f i).cs)[p]? := fun i hi => by
  obtain ⟨A', c', e, -, -, h3⟩ := h
  injection e with e1 e2 e3
  obtain ⟨b, o, e4, hb, hc⟩ := h3 (by simp; omega)
  refine ⟨b, o, e1.trans e4, fun W hW p hp => ?_⟩
  have := hc i (by simpa using hi) p hp
  rw [List.getElem_map, List.getElem_range, ← Nat.add_assoc] at this
  refine ((hW.cell (by exact hb)).trans this).trans ?_
  simp [csV]
end Go.Proofs.YtmapagbmihpbmaaGreatDoor
