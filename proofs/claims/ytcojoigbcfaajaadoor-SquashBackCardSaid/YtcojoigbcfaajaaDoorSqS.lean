/- Plain: a stable sort by insertion and merging in place, as Go's slices.SortStableFunc does it; it answers a permutation. -/
import Derived.Test.YtcojoigbcfaajaaDoorRows
import Derived.Shelf.SlSortCmp.KitK
namespace Go.Proofs.YtcojoigbcfaajaaDoor
namespace Sq

open Go.Sort
variable {α : Type} [Inhabited α]
def sw (d : Array α) (i j : Nat) : Array α := if i < d.size ∧ j < d.size then swp d i j else d
theorem sw_of {d : Array α} {i j : Nat} (hi : i < d.size) (hj : j < d.size) : sw d i j = swp d i j := if_pos ⟨hi, hj⟩
theorem sw_perm (d : Array α) (i j : Nat) : (sw d i j).Perm d := by
  unfold sw
  split
  · next h =>
    have e : swp d i j = d.swap i j h.1 h.2 := by
      unfold swp
      rw [getElem!_pos d i h.1, getElem!_pos d j h.2, Array.swap_def]
      simp [Array.setIfInBounds, h.1, h.2]
    rw [e]
    exact Array.swap_perm h.1 h.2
  · exact Array.Perm.refl _
theorem sw_len (d : Array α) (i j : Nat) : (sw d i j).size = d.size := (sw_perm d i j).size_eq

/-- An element goes down to its place. -/
def insJ (cf : α → α → Int) (a : Nat) : Nat → Array α → Array α
  | 0, l => l
  | j + 1, l => if a < j + 1 ∧ cf l[j + 1]! l[j]! < 0 then insJ cf a j (sw l (j + 1) j) else l
def insO (cf : α → α → Int) (a : Nat) : Nat → Nat → Array α → Array α
  | 0, _, l => l
  | k + 1, i, l => insO cf a k (i + 1) (insJ cf a i l)
def ins (cf : α → α → Int) (l : Array α) (a b : Nat) : Array α := insO cf a (b - (a + 1)) (a + 1) l
/-- Two stretches change places. -/
def swr : Nat → Nat → Nat → Array α → Array α
  | 0, _, _, l => l
  | n + 1, a, b, l => swr n (a + 1) (b + 1) (sw l a b)
def rot (m : Nat) (i j : Nat) (l : Array α) : Array α :=
  if i = 0 ∨ j = 0 then l
  else if i = j then swr i (m - i) m l
  else if j < i then rot m (i - j) j (swr j (m - i) m l)
  else rot m i (j - i) (swr i (m - i) (m + j - i) l)
termination_by i + j
/-- The first place from i on, before j, where a test is false. -/
def bs (p : Nat → Bool) (i j : Nat) : Nat := if i < j then (if p ((i + j) / 2) = true then bs p ((i + j) / 2 + 1) j else bs p i ((i + j) / 2)) else i
termination_by j - i
theorem bs_rng (p : Nat → Bool) (i j : Nat) (h : i ≤ j) : i ≤ bs p i j ∧ bs p i j ≤ j := by
  generalize hn : j - i = n
  induction n using Nat.strongRecOn generalizing i j with
  | ind n ih =>
    rw [bs]
    split
    · split
      · have := ih (j - ((i + j) / 2 + 1)) (by omega) ((i + j) / 2 + 1) j (by omega) rfl
        omega
      · have := ih ((i + j) / 2 - i) (by omega) i ((i + j) / 2) (by omega) rfl
        omega
    · omega
/-- An element goes up, or down, by swaps of neighbours. -/
def shU : Nat → Nat → Array α → Array α
  | 0, _, l => l
  | n + 1, k, l => shU n (k + 1) (sw l k (k + 1))
def shD : Nat → Nat → Array α → Array α
  | 0, _, l => l
  | n + 1, k, l => shD n (k - 1) (sw l k (k - 1))
/-- Where two stretches are exchanged. -/
def cutAt (cf : α → α → Int) (l : Array α) (a m b : Nat) : Nat :=
  bs (fun c => !decide (cf l[(a + b) / 2 + m - 1 - c]! l[c]! < 0)) (if (a + b) / 2 < m then (a + b) / 2 + m - b else a) (if (a + b) / 2 < m then (a + b) / 2 else m)
def rotIf (l : Array α) (s m e : Nat) : Array α := if s < m ∧ m < e then rot m (m - s) (e - m) l else l
def sym (cf : α → α → Int) (l : Array α) (a m b : Nat) : Array α :=
  if a < m ∧ m < b then
    if m - a = 1 then shU (bs (fun h => decide (cf l[h]! l[a]! < 0)) m b - 1 - a) a l
    else if b - m = 1 then shD (m - bs (fun h => !decide (cf l[m]! l[h]! < 0)) a m) m l
    else
      let s := cutAt cf l a m b
      let e := (a + b) / 2 + m - s
      let l1 := rotIf l s m e
      let l2 := if a < s ∧ s < (a + b) / 2 then sym cf l1 a s ((a + b) / 2) else l1
      if (a + b) / 2 < e ∧ e < b then sym cf l2 ((a + b) / 2) e b else l2
  else l
termination_by b - a
decreasing_by all_goals omega
/-- Blocks are sorted. -/
def blks (cf : α → α → Int) (bz n : Nat) (a b : Nat) (l : Array α) : Array α :=
  if 0 < bz ∧ b ≤ n then blks cf bz n b (b + bz) (ins cf l a b) else ins cf l a n
termination_by n + 1 - b
/-- Neighbouring blocks are merged. -/
def mrgs (cf : α → α → Int) (bz n : Nat) (a b : Nat) (l : Array α) : Array α :=
  if 0 < bz ∧ b ≤ n then mrgs cf bz n b (b + 2 * bz) (sym cf l a (a + bz) b) else if a + bz < n then sym cf l a (a + bz) n else l
termination_by n + 1 - b
def mrgO (cf : α → α → Int) (n : Nat) (bz : Nat) (l : Array α) : Array α :=
  if 0 < bz ∧ bz < n then mrgO cf n (2 * bz) (mrgs cf bz n 0 (2 * bz) l) else l
termination_by n - bz
def stab (cf : α → α → Int) (l : Array α) : Array α := mrgO cf l.size 20 (blks cf 20 l.size 0 20 l)

theorem insJ_perm (cf : α → α → Int) (a : Nat) : ∀ (j : Nat) (l : Array α), (insJ cf a j l).Perm l
  | 0, _ => Array.Perm.refl _
  | j + 1, l => by
    rw [insJ]
    split
    · exact (insJ_perm cf a j _).trans (sw_perm _ _ _)
    · exact Array.Perm.refl _
theorem insO_perm (cf : α → α → Int) (a : Nat) : ∀ (k i : Nat) (l : Array α), (insO cf a k i l).Perm l
  | 0, _, _ => Array.Perm.refl _
  | k + 1, i, l => (insO_perm cf a k (i + 1) _).trans (insJ_perm cf a i l)
theorem ins_perm (cf : α → α → Int) (l : Array α) (a b : Nat) : (ins cf l a b).Perm l := insO_perm _ _ _ _ _
theorem swr_perm : ∀ (n a b : Nat) (l : Array α), (swr n a b l).Perm l
  | 0, _, _, _ => Array.Perm.refl _
  | n + 1, a, b, l => (swr_perm n (a + 1) (b + 1) _).trans (sw_perm l a b)
theorem rot_perm (m : Nat) : ∀ (i j : Nat) (l : Array α), (rot m i j l).Perm l := by
  intro i j
  generalize hn : i + j = n
  induction n using Nat.strongRecOn generalizing i j with
  | ind n ih =>
    intro l
    rw [rot]
    split
    · exact Array.Perm.refl _
    · split
      · exact swr_perm _ _ _ _
      · split
        · exact (ih (i - j + j) (by omega) (i - j) j rfl _).trans (swr_perm _ _ _ _)
        · exact (ih (i + (j - i)) (by omega) i (j - i) rfl _).trans (swr_perm _ _ _ _)
theorem shU_perm : ∀ (n k : Nat) (l : Array α), (shU n k l).Perm l
  | 0, _, _ => Array.Perm.refl _
  | n + 1, k, l => (shU_perm n (k + 1) _).trans (sw_perm l _ _)
theorem shD_perm : ∀ (n k : Nat) (l : Array α), (shD n k l).Perm l
  | 0, _, _ => Array.Perm.refl _
  | n + 1, k, l => (shD_perm n (k - 1) _).trans (sw_perm l _ _)
theorem rotIf_perm (l : Array α) (s m e : Nat) : (rotIf l s m e).Perm l := by
  unfold rotIf
  split
  · exact rot_perm _ _ _ _
  · exact Array.Perm.refl _
theorem sym_perm (cf : α → α → Int) : ∀ (l : Array α) (a m b : Nat), (sym cf l a m b).Perm l := by
  intro l a m b
  generalize hn : b - a = n
  induction n using Nat.strongRecOn generalizing l a m b with
  | ind n ih =>
    rw [sym]
    split
    · split
      · exact shU_perm _ _ _
      · split
        · exact shD_perm _ _ _
        · dsimp only
          have h1 := rotIf_perm l (cutAt cf l a m b) m ((a + b) / 2 + m - cutAt cf l a m b)
          have h2 : (if a < cutAt cf l a m b ∧ cutAt cf l a m b < (a + b) / 2 then sym cf (rotIf l (cutAt cf l a m b) m ((a + b) / 2 + m - cutAt cf l a m b)) a (cutAt cf l a m b) ((a + b) / 2) else rotIf l (cutAt cf l a m b) m ((a + b) / 2 + m - cutAt cf l a m b)).Perm l := by
            split
            · exact (ih ((a + b) / 2 - a) (by omega) _ a _ _ rfl).trans h1
            · exact h1
          split
          · exact (ih (b - (a + b) / 2) (by omega) _ _ _ b rfl).trans h2
          · exact h2
    · exact Array.Perm.refl _
theorem blks_perm (cf : α → α → Int) (bz n : Nat) : ∀ (a b : Nat) (l : Array α), (blks cf bz n a b l).Perm l := by
  intro a b
  generalize hk : n + 1 - b = k
  induction k using Nat.strongRecOn generalizing a b with
  | ind k ih =>
    intro l
    rw [blks]
    split
    · exact (ih (n + 1 - (b + bz)) (by omega) b (b + bz) rfl _).trans (ins_perm _ _ _ _)
    · exact ins_perm _ _ _ _
theorem mrgs_perm (cf : α → α → Int) (bz n : Nat) : ∀ (a b : Nat) (l : Array α), (mrgs cf bz n a b l).Perm l := by
  intro a b
  generalize hk : n + 1 - b = k
  induction k using Nat.strongRecOn generalizing a b with
  | ind k ih =>
    intro l
    rw [mrgs]
    split
    · exact (ih (n + 1 - (b + 2 * bz)) (by omega) b (b + 2 * bz) rfl _).trans (sym_perm _ _ _ _ _)
    · split
      · exact sym_perm _ _ _ _ _
      · exact Array.Perm.refl _
theorem mrgO_perm (cf : α → α → Int) (n : Nat) : ∀ (bz : Nat) (l : Array α), (mrgO cf n bz l).Perm l := by
  intro bz
  generalize hk : n - bz = k
  induction k using Nat.strongRecOn generalizing bz with
  | ind k ih =>
    intro l
    rw [mrgO]
    split
    · exact (ih (n - 2 * bz) (by omega) (2 * bz) rfl _).trans (mrgs_perm _ _ _ _ _ _)
    · exact Array.Perm.refl _
theorem stab_perm (cf : α → α → Int) (l : Array α) : (stab cf l).Perm l := (mrgO_perm _ _ _ _).trans (blks_perm _ _ _ _ _ _)
theorem insJ_len (cf : α → α → Int) (a j : Nat) (l : Array α) : (insJ cf a j l).size = l.size := (insJ_perm cf a j l).size_eq
theorem ins_len (cf : α → α → Int) (l : Array α) (a b : Nat) : (ins cf l a b).size = l.size := (ins_perm cf l a b).size_eq
theorem swr_len (n a b : Nat) (l : Array α) : (swr n a b l).size = l.size := (swr_perm n a b l).size_eq
theorem rot_len (m i j : Nat) (l : Array α) : (rot m i j l).size = l.size := (rot_perm m i j l).size_eq
theorem rotIf_len (l : Array α) (s m e : Nat) : (rotIf l s m e).size = l.size := (rotIf_perm l s m e).size_eq
theorem sym_len (cf : α → α → Int) (l : Array α) (a m b : Nat) : (sym cf l a m b).size = l.size := (sym_perm cf l a m b).size_eq
theorem cut_rng (cf : α → α → Int) (l : Array α) {a m b : Nat} (h1 : a < m) (h2 : m < b) :
    (if (a + b) / 2 < m then (a + b) / 2 + m - b else a) ≤ cutAt cf l a m b ∧ cutAt cf l a m b ≤ (if (a + b) / 2 < m then (a + b) / 2 else m) := by
  unfold cutAt
  refine bs_rng _ _ _ ?_
  split <;> omega
end Sq
end Go.Proofs.YtcojoigbcfaajaaDoor
