/- Plain: a stable sort by insertion and merging in place, as Go's slices.SortStableFunc does it; it answers a permutation. -/
import Derived.Test.YtllhefjblipddaaGreatDoorRows
import Derived.Shelf.SlSortCmp.KitK
set_option linter.unusedSimpArgs false
set_option linter.unusedVariables false
namespace Go.Proofs.YtllhefjblipddaaGreatDoor
namespace Sq

open Go.Sort
variable {α : Type} [Inhabited α]
def sw (d : Array α) (i j : Nat) : Array α := if i < d.size ∧ j < d.size then swp d i j else d
theorem sw_of {d : Array α} {i j : Nat} (hi : i < d.size) (hj : j < d.size) : sw d i j = swp d i j := if_pos ⟨hi, hj⟩
theorem sw_perm (d : Array α) (i j : Nat) : (sw d i j).Perm d := by
  unfold sw
  split
  · next h =>
    have e : swp d i j = d.swap i j h.1 h.2 := by
      unfold swp
      rw [getElem!_pos d i h.1, getElem!_pos d j h.2, Array.swap_def]
      simp [Array.setIfInBounds, h.1, h.2]
    rw [e]
    exact Array.swap_perm h.1 h.2
  · exact Array.Perm.refl _
theorem sw_len (d : Array α) (i j : Nat) : (sw d i j).size = d.size := (sw_perm d i j).size_eq

/-- An element goes down to its place. -/
def insJ (cf : α → α → Int) (a : Nat) : Nat → Array α → Array α
  | 0, l => l
  | j + 1, l => if a < j + 1 ∧ cf l[j + 1]! l[j]! < 0 then insJ cf a j (sw l (j + 1) j) else l
def insO (cf : α → α → Int) (a : Nat) : Nat → Nat → Array α → Array α
  | 0, _, l => l
  | k + 1, i, l => insO cf a k (i + 1) (insJ cf a i l)
def ins (cf : α → α → Int) (l : Array α) (a b : Nat) : Array α := insO cf a (b - (a + 1)) (a + 1) l
/-- Two stretches change places. -/
def swr : Nat → Nat → Nat → Array α → Array α
  | 0, _, _, l => l
  | n + 1, a, b, l => swr n (a + 1) (b + 1) (sw l a b)
def rot (m : Nat) (i j : Nat) (l : Array α) : Array α :=
  if i = 0 ∨ j = 0 then l
  else if i = j then swr i (m - i) m l
  else if j < i then rot m (i - j) j (swr j (m - i) m l)
  else rot m i (j - i) (swr i (m - i) (m + j - i) l)
termination_by i + j
/-- The first place from i on, before j, where a test is false. -/
def bs (p : Nat → Bool) (i j : Nat) : Nat := if i < j then (if p ((i + j) / 2) = true then bs p ((i + j) / 2 + 1) j else bs p i ((i + j) / 2)) else i
termination_by j - i
theorem bs_rng (p : Nat → Bool) (i j : Nat) (h : i ≤ j) : i ≤ bs p i j ∧ bs p i j ≤ j := by
  generalize hn : j - i = n
  induction n using Nat.strongRecOn generalizing i j with
  | ind n ih =>
    rw [bs]
    split
    · split
      · have := ih (j - ((i + j) / 2 + 1)) (by omega) ((i + j) / 2 + 1) j (by omega) rfl
        omega
      · have := ih ((i + j) / 2 - i) (by omega) i ((i + j) / 2) (by omega) rfl
        omega
    · omega
/-- An element goes up, or down, by swaps of neighbours. -/
def shU : Nat → Nat → Array α → Array α
  | 0, _, l => l
  | n + 1, k, l => shU n (k + 1) (sw l k (k + 1))
def shD : Nat → Nat → Array α → Array α
  | 0, _, l => l
  | n + 1, k, l => shD n (k - 1) (sw l k (k - 1))
/-- Where two stretches are exchanged. -/
def cutAt (cf : α → α → Int) (l : Array α) (a m b : Nat) : Nat :=
  bs (fun c => !decide (cf l[(a + b) / 2 + m - 1 - c]! l[c]! < 0)) (if (a + b) / 2 < m then (a + b) / 2 + m - b else a) (if (a + b) / 2 < m then (a + b) / 2 else m)
def rotIf (l : Array α) (s m e : Nat) : Array α := if s < m ∧ m < e then rot m (m - s) (e - m) l else l
def sym (cf : α → α → Int) (l : Array α) (a m b : Nat) : Array α :=
  if a < m ∧ m < b then
    if m - a = 1 then shU (bs (fun h => decide (cf l[h]! l[a]! < 0)) m b - 1 - a) a l
    else if b - m = 1 then shD (m - bs (fun h => !decide (cf l[m]! l[h]! < 0)) a m) m l
    else
      let s := cutAt cf l a m b
      let e := (a + b) / 2 + m - s
      let l1 := rotIf l s m e
      let l2 := if a < s ∧ s < (a + b) / 2 then sym cf l1 a s ((a + b) / 2) else l1
      if (a + b) / 2 < e ∧ e < b then sym cf l2 ((a + b) / 2) e b else l2
  else l
termination_by b - a
decreasing_by all_goals omega
/-- Blocks are sorted. -/
def blks (cf : α → α → Int) (bz n : Nat) (a b : Nat) (l : Array α) : Array α :=
  if 0 < bz ∧ b ≤ n then blks cf bz n b (b + bz) (ins cf l a b) else ins cf l a n
termination_by n + 1 - b
/-- Neighbouring blocks are merged. -/
def mrgs (cf : α → α → Int) (bz n : Nat) (a b : Nat) (l : Array α) : Array α :=
  if 0 < bz ∧ b ≤ n then mrgs cf bz n b (b + 2 * bz) (sym cf l a (a + bz) b) else if a + bz < n then sym cf l a (a + bz) n else l
termination_by n + 1 - b
def mrgO (cf : α → α → Int) (n : Nat) (bz : Nat) (l : Array α) : Array α :=
  if 0 < bz ∧ bz < n then mrgO cf n (2 * bz) (mrgs cf bz n 0 (2 * bz) l) else l
termination_by n - bz
def stab (cf : α → α → Int) (l : Array α) : Array α := mrgO cf l.size 20 (blks cf 20 l.size 0 20 l)

theorem insJ_perm (cf : α → α → Int) (a : Nat) : ∀ (j : Nat) (l : Array α), (insJ cf a j l).Perm l
  | 0, _ => Array.Perm.refl _
  | j + 1, l => by
    rw [insJ]
    split
    · exact (insJ_perm cf a j _).trans (sw_perm _ _ _)
    · exact Array.Perm.refl _
theorem insO_perm (cf : α → α → Int) (a : Nat) : ∀ (k i : Nat) (l : Array α), (insO cf a k i l).Perm l
  | 0, _, _ => Array.Perm.refl _
  | k + 1, i, l => (insO_perm cf a k (i + 1) _).trans (insJ_perm cf a i l)
theorem ins_perm (cf : α → α → Int) (l : Array α) (a b : Nat) : (ins cf l a b).Perm l := insO_perm _ _ _ _ _
theorem swr_perm : ∀ (n a b : Nat) (l : Array α), (swr n a b l).Perm l
  | 0, _, _, _ => Array.Perm.refl _
  | n + 1, a, b, l => (swr_perm n (a + 1) (b + 1) _).trans (sw_perm l a b)
theorem rot_perm (m : Nat) : ∀ (i j : Nat) (l : Array α), (rot m i j l).Perm l := by
  intro i j
  generalize hn : i + j = n
  induction n using Nat.strongRecOn generalizing i j with
  | ind n ih =>
    intro l
    rw [rot]
    split
    · exact Array.Perm.refl _
    · split
      · exact swr_perm _ _ _ _
      · split
        · exact (ih (i - j + j) (by omega) (i - j) j rfl _).trans (swr_perm _ _ _ _)
        · exact (ih (i + (j - i)) (by omega) i (j - i) rfl _).trans (swr_perm _ _ _ _)
theorem shU_perm : ∀ (n k : Nat) (l : Array α), (shU n k l).Perm l
  | 0, _, _ => Array.Perm.refl _
  | n + 1, k, l => (shU_perm n (k + 1) _).trans (sw_perm l _ _)
theorem shD_perm : ∀ (n k : Nat) (l : Array α), (shD n k l).Perm l
  | 0, _, _ => Array.Perm.refl _
  | n + 1, k, l => (shD_perm n (k - 1) _).trans (sw_perm l _ _)
theorem rotIf_perm (l : Array α) (s m e : Nat) : (rotIf l s m e).Perm l := by
  unfold rotIf
  split
  · exact rot_perm _ _ _ _
  · exact Array.Perm.refl _
theorem sym_perm (cf : α → α → Int) : ∀ (l : Array α) (a m b : Nat), (sym cf l a m b).Perm l := by
  intro l a m b
  generalize hn : b - a = n
  induction n using Nat.strongRecOn generalizing l a m b with
  | ind n ih =>
    rw [sym]
    split
    · split
      · exact shU_perm _ _ _
      · split
        · exact shD_perm _ _ _
        · dsimp only
          have h1 := rotIf_perm l (cutAt cf l a m b) m ((a + b) / 2 + m - cutAt cf l a m b)
          have h2 : (if a < cutAt cf l a m b ∧ cutAt cf l a m b < (a + b) / 2 then sym cf (rotIf l (cutAt cf l a m b) m ((a + b) / 2 + m - cutAt cf l a m b)) a (cutAt cf l a m b) ((a + b) / 2) else rotIf l (cutAt cf l a m b) m ((a + b) / 2 + m - cutAt cf l a m b)).Perm l := by
            split
            · exact (ih ((a + b) / 2 - a) (by omega) _ a _ _ rfl).trans h1
            · exact h1
          split
          · exact (ih (b - (a + b) / 2) (by omega) _ _ _ b rfl).trans h2
          · exact h2
    · exact Array.Perm.refl _
theorem blks_perm (cf : α → α → Int) (bz n : Nat) : ∀ (a b : Nat) (l : Array α), (blks cf bz n a b l).Perm l := by
  intro a b
  generalize hk : n + 1 - b = k
  induction k using Nat.strongRecOn generalizing a b with
  | ind k ih =>
    intro l
    rw [blks]
    split
    · exact (ih (n + 1 - (b + bz)) (by omega) b (b + bz) rfl _).trans (ins_perm _ _ _ _)
    · exact ins_perm _ _ _ _
theorem mrgs_perm (cf : α → α → Int) (bz n : Nat) : ∀ (a b : Nat) (l : Array α), (mrgs cf bz n a b l).Perm l := by
  intro a b
  generalize hk : n + 1 - b = k
  induction k using Nat.strongRecOn generalizing a b with
  | ind k ih =>
    intro l
    rw [mrgs]
    split
    · exact (ih (n + 1 - (b + 2 * bz)) (by omega) b (b + 2 * bz) rfl _).trans (sym_perm _ _ _ _ _)
    · split
      · exact sym_perm _ _ _ _ _
      · exact Array.Perm.refl _
theorem mrgO_perm (cf : α → α → Int) (n : Nat) : ∀ (bz : Nat) (l : Array α), (mrgO cf n bz l).Perm l := by
  intro bz
  generalize hk : n - bz = k
  induction k using Nat.strongRecOn generalizing bz with
  | ind k ih =>
    intro l
    rw [mrgO]
    split
    · exact (ih (n - 2 * bz) (by omega) (2 * bz) rfl _).trans (mrgs_perm _ _ _ _ _ _)
    · exact Array.Perm.refl _
theorem stab_perm (cf : α → α → Int) (l : Array α) : (stab cf l).Perm l := (mrgO_perm _ _ _ _).trans (blks_perm _ _ _ _ _ _)
theorem insJ_len (cf : α → α → Int) (a j : Nat) (l : Array α) : (insJ cf a j l).size = l.size := (insJ_perm cf a j l).size_eq
theorem ins_len (cf : α → α → Int) (l : Array α) (a b : Nat) : (ins cf l a b).size = l.size := (ins_perm cf l a b).size_eq
theorem swr_len (n a b : Nat) (l : Array α) : (swr n a b l).size = l.size := (swr_perm n a b l).size_eq
theorem rot_len (m i j : Nat) (l : Array α) : (rot m i j l).size = l.size := (rot_perm m i j l).size_eq
theorem rotIf_len (l : Array α) (s m e : Nat) : (rotIf l s m e).size = l.size := (rotIf_perm l s m e).size_eq
theorem sym_len (cf : α → α → Int) (l : Array α) (a m b : Nat) : (sym cf l a m b).size = l.size := (sym_perm cf l a m b).size_eq
theorem cut_rng (cf : α → α → Int) (l : Array α) {a m b : Nat} (h1 : a < m) (h2 : m < b) :
    (if (a + b) / 2 < m then (a + b) / 2 + m - b else a) ≤ cutAt cf l a m b ∧ cutAt cf l a m b ≤ (if (a + b) / 2 < m then (a + b) / 2 else m) := by
  unfold cutAt
  refine bs_rng _ _ _ ?_
  split <;> omega
end Sq
end Go.Proofs.YtllhefjblipddaaGreatDoor

namespace Go.Proofs.YtllhefjblipddaaGreatDoor
namespace Pv
open Go.Sort Sq
section
variable {α : Type} [Inhabited α] {cf : α → α → Int}
/-- What a comparison must keep. -/
structure Tot (cf : α → α → Int) (P : α → Prop) : Prop where
  anti : ∀ a b, P a → P b → cf a b = - cf b a
  trans : ∀ a b c, P a → P b → P c → cf a b ≤ 0 → cf b c ≤ 0 → cf a c ≤ 0
theorem swp_at (d : Array α) (i j : Nat) (hi : i < d.size) (hj : j < d.size) (k : Nat) : (sw d i j)[k]! = if k = j then d[i]! else if k = i then d[j]! else d[k]! := by
  rw [sw_of hi hj, swp_get d hi hj]
/-- The element that goes down leaves what stands behind its place. -/
theorem insJ_above (a : Nat) : ∀ (j : Nat) (l : Array α), j < l.size → ∀ k, j < k → (insJ cf a j l)[k]! = l[k]!
  | 0, _, _, _, _ => rfl
  | j + 1, l, h, k, hk => by
    rw [insJ]
    split
    · rw [insJ_above a j _ (by rw [sw_len]; omega) k (by omega), swp_at l (j + 1) j h (by omega), if_neg (by omega), if_neg (by omega)]
    · rfl
theorem insJ_mem (a : Nat) (P : α → Prop) : ∀ (j : Nat) (l : Array α), j < l.size → (∀ k, k ≤ j → P l[k]!) → ∀ k, k ≤ j → P (insJ cf a j l)[k]!
  | 0, _, _, h, k, hk => h k hk
  | j + 1, l, hs, h, k, hk => by
    rw [insJ]
    split
    · by_cases hk2 : k ≤ j
      · refine insJ_mem a P j _ (by rw [sw_len]; omega) (fun q hq => ?_) k hk2
        rw [swp_at l (j + 1) j hs (by omega)]
        split
        · exact h _ (Nat.le_refl _)
        · split
          · exact h _ (by omega)
          · exact h _ (by omega)
      · obtain rfl : k = j + 1 := by omega
        rw [insJ_above a j _ (by rw [sw_len]; omega) _ (by omega), swp_at l (j + 1) j hs (by omega), if_neg (by omega), if_pos rfl]
        exact h _ (by omega)
    · exact h k hk
/-- The last of a stretch is its greatest. -/
def Last (cf : α → α → Int) (l : Array α) (i : Nat) : Prop := ∀ k, k ≤ i → cf l[k]! l[i]! ≤ 0
theorem insJ_last {P : α → Prop} (ht : Tot cf P) (i : Nat) (l : Array α) (hs : i + 1 < l.size) (hP : ∀ k, k ≤ i + 1 → P l[k]!) (h : Last cf l i) : Last cf (insJ cf 0 (i + 1) l) (i + 1) := by
  rw [insJ]
  by_cases hc : 0 < i + 1 ∧ cf l[i + 1]! l[i]! < 0
  · rw [if_pos hc]
    have hsw : ∀ q, q ≤ i → cf (sw l (i + 1) i)[q]! l[i]! ≤ 0 := fun q hq => by
      rw [swp_at l (i + 1) i hs (by omega)]
      split
      · omega
      · split
        · omega
        · exact h q hq
    intro k hk
    have e : (insJ cf 0 i (sw l (i + 1) i))[i + 1]! = l[i]! := by
      rw [insJ_above 0 i _ (by rw [sw_len]; omega) _ (by omega), swp_at l (i + 1) i hs (by omega), if_neg (by omega), if_pos rfl]
    rw [e]
    by_cases hk2 : k ≤ i
    · exact insJ_mem 0 (fun x => cf x l[i]! ≤ 0) i _ (by rw [sw_len]; omega) hsw k hk2
    · obtain rfl : k = i + 1 := by omega
      rw [e]
      have := ht.anti l[i]! l[i]! (hP i (by omega)) (hP i (by omega))
      omega
  · rw [if_neg hc]
    intro k hk
    have h1 : cf l[i]! l[i + 1]! ≤ 0 := by
      have := ht.anti l[i]! l[i + 1]! (hP i (by omega)) (hP (i + 1) (Nat.le_refl _))
      omega
    by_cases hk2 : k ≤ i
    · exact ht.trans _ _ _ (hP k (by omega)) (hP i (by omega)) (hP _ (Nat.le_refl _)) (h k hk2) h1
    · obtain rfl : k = i + 1 := by omega
      have := ht.anti l[i + 1]! l[i + 1]! (hP _ (Nat.le_refl _)) (hP _ (Nat.le_refl _))
      omega
theorem insO_last {P : α → Prop} (ht : Tot cf P) : ∀ (k i : Nat) (l : Array α), i + k = l.size → 1 ≤ i → (∀ q, q < l.size → P l[q]!) → Last cf l (i - 1) → (∀ q, q < l.size → P (insO cf 0 k i l)[q]!) ∧ Last cf (insO cf 0 k i l) (l.size - 1)
  | 0, i, l, h, _, hP, hL => ⟨hP, by rw [show l.size - 1 = i - 1 by omega]; exact hL⟩
  | k + 1, i, l, h, h1, hP, hL => by
    rw [insO]
    obtain ⟨j, rfl⟩ : ∃ j, i = j + 1 := ⟨i - 1, by omega⟩
    have hlen : (insJ cf 0 (j + 1) l).size = l.size := insJ_len _ _ _ _
    have h2 := insJ_last ht j l (by omega) (fun k hk => hP k (by omega)) hL
    have h3 : ∀ q, q < (insJ cf 0 (j + 1) l).size → P (insJ cf 0 (j + 1) l)[q]! := fun q hq => by
      by_cases hq2 : q ≤ j + 1
      · exact insJ_mem 0 P (j + 1) l (by omega) (fun k hk => hP k (by omega)) q hq2
      · rw [insJ_above 0 (j + 1) l (by omega) q (by omega)]
        exact hP q (by omega)
    have ih := insO_last ht k (j + 1 + 1) (insJ cf 0 (j + 1) l) (by omega) (by omega) h3 h2
    rw [hlen] at ih
    exact ih
theorem ins_last {P : α → Prop} (ht : Tot cf P) (l : Array α) (h : 0 < l.size) (hP : ∀ q, q < l.size → P l[q]!) : (∀ q, q < l.size → P (ins cf l 0 l.size)[q]!) ∧ Last cf (ins cf l 0 l.size) (l.size - 1) := by
  unfold ins
  refine insO_last ht _ 1 l (by omega) (Nat.le_refl _) hP fun k hk => ?_
  obtain rfl : k = 0 := by omega
  have := ht.anti l[0]! l[0]! (hP 0 h) (hP 0 h)
  show cf l[0]! l[0]! ≤ 0
  omega
end
/-- Equal neighbours are struck. -/
def cpt {α : Type} (cf : α → α → Int) : α → List α → List α
  | _, [] => []
  | p, x :: t => if cf x p = 0 then cpt cf x t else x :: cpt cf x t
def cmpct {α : Type} (cf : α → α → Int) : List α → List α
  | [] => []
  | x :: t => x :: cpt cf x t
theorem cpt_last {α : Type} {cf : α → α → Int} {P : α → Prop} (ht : Tot cf P) : ∀ (t : List α) (p q : α), P p → P q → (∀ x ∈ t, P x) → cf p q = 0 → cf (t.getLastD p) ((cpt cf p t).getLastD q) = 0
  | [], _, _, _, _, _, h => h
  | x :: t, p, q, hp, hq, ha, h => by
    have hx := ha x (by simp)
    have hr := fun y (hy : y ∈ t) => ha y (by simp [hy])
    rw [List.getLastD_cons, cpt]
    by_cases hc : cf x p = 0
    · rw [if_pos hc]
      refine cpt_last ht t x q hx hq hr ?_
      have h1 := ht.trans x p q hx hp hq (by omega) (by omega)
      have h2 := ht.trans q p x hq hp hx (by have := ht.anti q p hq hp; omega) (by have := ht.anti p x hp hx; omega)
      have h3 := ht.anti x q hx hq
      omega
    · rw [if_neg hc, List.getLastD_cons]
      refine cpt_last ht t x x hx hx hr ?_
      have := ht.anti x x hx hx
      omega
theorem cpt_mem {α : Type} (cf : α → α → Int) : ∀ (t : List α) (p : α), ∀ x ∈ cpt cf p t, x ∈ t
  | [], _, x, h => h
  | y :: t, p, x, h => by
    rw [cpt] at h
    split at h
    · exact List.mem_cons_of_mem _ (cpt_mem cf t y x h)
    · rcases List.mem_cons.1 h with rfl | h
      · exact List.mem_cons_self ..
      · exact List.mem_cons_of_mem _ (cpt_mem cf t y x h)
theorem cpt_len {α : Type} (cf : α → α → Int) : ∀ (t : List α) (p : α), (cpt cf p t).length ≤ t.length
  | [], _ => Nat.le_refl _
  | y :: t, p => by
    rw [cpt]
    split
    · exact Nat.le_succ_of_le (cpt_len cf t y)
    · exact Nat.succ_le_succ (cpt_len cf t y)
/-- The search that ends at the end has passed the last. -/
theorem bs_end (p : Nat → Bool) : ∀ (n i j : Nat), j - i = n → i < j → bs p i j = j → p (j - 1) = true := by
  intro n
  induction n using Nat.strongRecOn with
  | ind n ih =>
    intro i j hn hlt he
    rw [bs, if_pos hlt] at he
    by_cases hp : p ((i + j) / 2) = true
    · rw [if_pos hp] at he
      by_cases h2 : (i + j) / 2 + 1 < j
      · exact ih (j - ((i + j) / 2 + 1)) (by omega) _ j rfl h2 he
      · rw [show j - 1 = (i + j) / 2 by omega]
        exact hp
    · rw [if_neg hp] at he
      have := bs_rng p i ((i + j) / 2) (by omega)
      omega
theorem bs_in (p : Nat → Bool) (n : Nat) (hn : 0 < n) (h : p (n - 1) = false) : bs p 0 n < n := by
  have h1 := bs_rng p 0 n (Nat.zero_le _)
  rcases Nat.lt_or_ge (bs p 0 n) n with h2 | h2
  · exact h2
  · have := bs_end p n 0 n rfl hn (by omega)
    rw [h] at this
    cases this
end Pv
end Go.Proofs.YtllhefjblipddaaGreatDoor
