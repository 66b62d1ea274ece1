/- Plain: the stable sort is the same under a map that keeps the comparisons. -/
import Derived.Test.YtcojoigbcfaajaaDoorSqS
namespace Go.Proofs.YtcojoigbcfaajaaDoor
namespace Sq
open Go.Sort
section
variable {α β : Type} [Inhabited α] [Inhabited β] {f : α → β} {ca : α → α → Int} {cb : β → β → Int}
theorem get_map (hf : f default = default) (l : Array α) (i : Nat) : (l.map f)[i]! = f l[i]! := by
  by_cases h : i < l.size
  · rw [getElem!_pos (l.map f) i (by simpa using h), getElem!_pos l i h, Array.getElem_map]
  · rw [getElem!_neg (l.map f) i (by simpa using h), getElem!_neg l i h, hf]
theorem sw_map (hf : f default = default) (l : Array α) (i j : Nat) : sw (l.map f) i j = (sw l i j).map f := by
  unfold sw
  rw [Array.size_map]
  split
  · unfold swp
    rw [get_map hf, get_map hf]
    rw [Array.map_setIfInBounds, Array.map_setIfInBounds]
  · rfl
theorem insJ_map (hf : f default = default) (hc : ∀ x y, cb (f x) (f y) = ca x y) (a : Nat) : ∀ (j : Nat) (l : Array α), insJ cb a j (l.map f) = (insJ ca a j l).map f
  | 0, _ => rfl
  | j + 1, l => by
    conv => lhs; rw [insJ]
    conv => rhs; rw [insJ]
    rw [get_map hf, get_map hf, hc, sw_map hf, insJ_map hf hc a j]
    split <;> rfl
theorem insO_map (hf : f default = default) (hc : ∀ x y, cb (f x) (f y) = ca x y) (a : Nat) : ∀ (k i : Nat) (l : Array α), insO cb a k i (l.map f) = (insO ca a k i l).map f
  | 0, _, _ => rfl
  | k + 1, i, l => by rw [insO, insO, insJ_map hf hc, insO_map hf hc a k]
theorem ins_map (hf : f default = default) (hc : ∀ x y, cb (f x) (f y) = ca x y) (l : Array α) (a b : Nat) : ins cb (l.map f) a b = (ins ca l a b).map f := insO_map hf hc _ _ _ _
theorem swr_map (hf : f default = default) : ∀ (n a b : Nat) (l : Array α), swr n a b (l.map f) = (swr n a b l).map f
  | 0, _, _, _ => rfl
  | n + 1, a, b, l => by rw [swr, swr, sw_map hf, swr_map hf n]
theorem rot_map (hf : f default = default) (m : Nat) : ∀ (i j : Nat) (l : Array α), rot m i j (l.map f) = (rot m i j l).map f := by
  intro i j
  generalize hn : i + j = n
  induction n using Nat.strongRecOn generalizing i j with
  | ind n ih =>
    intro l
    conv => lhs; rw [rot]
    conv => rhs; rw [rot]
    split
    · rfl
    · split
      · exact swr_map hf _ _ _ _
      · split
        · rw [swr_map hf]; exact ih (i - j + j) (by omega) (i - j) j rfl _
        · rw [swr_map hf]; exact ih (i + (j - i)) (by omega) i (j - i) rfl _
theorem shU_map (hf : f default = default) : ∀ (n k : Nat) (l : Array α), shU n k (l.map f) = (shU n k l).map f
  | 0, _, _ => rfl
  | n + 1, k, l => by rw [shU, shU, sw_map hf, shU_map hf n]
theorem shD_map (hf : f default = default) : ∀ (n k : Nat) (l : Array α), shD n k (l.map f) = (shD n k l).map f
  | 0, _, _ => rfl
  | n + 1, k, l => by rw [shD, shD, sw_map hf, shD_map hf n]
theorem cutAt_map (hf : f default = default) (hc : ∀ x y, cb (f x) (f y) = ca x y) (l : Array α) (a m b : Nat) : cutAt cb (l.map f) a m b = cutAt ca l a m b := by
  unfold cutAt
  congr 1
  funext c
  rw [get_map hf, get_map hf, hc]
theorem rotIf_map (hf : f default = default) (l : Array α) (s m e : Nat) : rotIf (l.map f) s m e = (rotIf l s m e).map f := by
  unfold rotIf
  split
  · exact rot_map hf _ _ _ _
  · rfl
theorem sym_map (hf : f default = default) (hc : ∀ x y, cb (f x) (f y) = ca x y) : ∀ (l : Array α) (a m b : Nat), sym cb (l.map f) a m b = (sym ca l a m b).map f := by
  intro l a m b
  generalize hn : b - a = n
  induction n using Nat.strongRecOn generalizing l a m b with
  | ind n ih =>
    conv => lhs; rw [sym]
    conv => rhs; rw [sym]
    split
    · split
      · have e : (fun h : Nat => decide (cb (l.map f)[h]! (l.map f)[a]! < 0)) = fun h : Nat => decide (ca l[h]! l[a]! < 0) := by
          funext h
          rw [get_map hf, get_map hf, hc]
        rw [e]
        exact shU_map hf _ _ _
      · split
        · have e : (fun h : Nat => !decide (cb (l.map f)[m]! (l.map f)[h]! < 0)) = fun h : Nat => !decide (ca l[m]! l[h]! < 0) := by
            funext h
            rw [get_map hf, get_map hf, hc]
          rw [e]
          exact shD_map hf _ _ _
        · dsimp only
          rw [cutAt_map hf hc, rotIf_map hf]
          have h2 : (if a < cutAt ca l a m b ∧ cutAt ca l a m b < (a + b) / 2 then sym cb ((rotIf l (cutAt ca l a m b) m ((a + b) / 2 + m - cutAt ca l a m b)).map f) a (cutAt ca l a m b) ((a + b) / 2) else (rotIf l (cutAt ca l a m b) m ((a + b) / 2 + m - cutAt ca l a m b)).map f) =
              (if a < cutAt ca l a m b ∧ cutAt ca l a m b < (a + b) / 2 then sym ca (rotIf l (cutAt ca l a m b) m ((a + b) / 2 + m - cutAt ca l a m b)) a (cutAt ca l a m b) ((a + b) / 2) else rotIf l (cutAt ca l a m b) m ((a + b) / 2 + m - cutAt ca l a m b)).map f := by
            split
            · exact ih ((a + b) / 2 - a) (by omega) _ a _ _ rfl
            · rfl
          rw [h2]
          split
          · exact ih (b - (a + b) / 2) (by omega) _ _ _ b rfl
          · rfl
    · rfl
theorem blks_map (hf : f default = default) (hc : ∀ x y, cb (f x) (f y) = ca x y) (bz n : Nat) : ∀ (a b : Nat) (l : Array α), blks cb bz n a b (l.map f) = (blks ca bz n a b l).map f := by
  intro a b
  generalize hk : n + 1 - b = k
  induction k using Nat.strongRecOn generalizing a b with
  | ind k ih =>
    intro l
    conv => lhs; rw [blks]
    conv => rhs; rw [blks]
    split
    · rw [ins_map hf hc]; exact ih (n + 1 - (b + bz)) (by omega) b (b + bz) rfl _
    · exact ins_map hf hc _ _ _
theorem mrgs_map (hf : f default = default) (hc : ∀ x y, cb (f x) (f y) = ca x y) (bz n : Nat) : ∀ (a b : Nat) (l : Array α), mrgs cb bz n a b (l.map f) = (mrgs ca bz n a b l).map f := by
  intro a b
  generalize hk : n + 1 - b = k
  induction k using Nat.strongRecOn generalizing a b with
  | ind k ih =>
    intro l
    conv => lhs; rw [mrgs]
    conv => rhs; rw [mrgs]
    split
    · rw [sym_map hf hc]; exact ih (n + 1 - (b + 2 * bz)) (by omega) b (b + 2 * bz) rfl _
    · split
      · exact sym_map hf hc _ _ _ _
      · rfl
theorem mrgO_map (hf : f default = default) (hc : ∀ x y, cb (f x) (f y) = ca x y) (n : Nat) : ∀ (bz : Nat) (l : Array α), mrgO cb n bz (l.map f) = (mrgO ca n bz l).map f := by
  intro bz
  generalize hk : n - bz = k
  induction k using Nat.strongRecOn generalizing bz with
  | ind k ih =>
    intro l
    conv => lhs; rw [mrgO]
    conv => rhs; rw [mrgO]
    split
    · rw [mrgs_map hf hc]; exact ih (n - 2 * bz) (by omega) (2 * bz) rfl _
    · rfl
theorem stab_map (hf : f default = default) (hc : ∀ x y, cb (f x) (f y) = ca x y) (l : Array α) : stab cb (l.map f) = (stab ca l).map f := by
  unfold stab
  rw [Array.size_map, blks_map hf hc, mrgO_map hf hc]
end
end Sq
end Go.Proofs.YtcojoigbcfaajaaDoor
