/- strings.ReplaceAll of one byte, as a map over the bytes. -/
import Derived.Lib.Replace
import Derived.Lib.CountLaws
namespace Go.Proofs.YtjgojbkmeggmhaaDoor.Cr

theorem rep_one (c : UInt8) (new : List UInt8) : ∀ l : List UInt8, Lib.replaceK [c] new (Lib.count l [c]) l = l.flatMap fun b => if b = c then new else [b]
  | [] => by rw [Lib.count_miss (by rfl)]; rfl
  | b :: t => by
    have ih := rep_one c new t
    by_cases hb : b = c
    · subst hb
      have hi : Lib.index (b :: t) [b] = (0 : Nat) := by simp [Lib.index, List.isPrefixOf]
      rw [Lib.count_hit (by simp) hi, Nat.add_comm, Lib.replaceK_hit _ _ _ _ _ hi]
      simp [ih]
    · have hp : ([c] : List UInt8).isPrefixOf (b :: t) = false := by
        simp [List.isPrefixOf]; exact fun h => hb h.symm
      by_cases hm : Lib.index t [c] = -1
      · have hi : Lib.index (b :: t) [c] = -1 := by simp [Lib.index, hp, hm]
        rw [Lib.count_miss hm] at ih
        rw [Lib.count_miss hi]
        simp only [Lib.replaceK, List.flatMap_cons, if_neg hb] at ih ⊢
        rw [← ih]; rfl
      · obtain ⟨i, hi⟩ : ∃ i : Nat, Lib.index t [c] = i := ⟨(Lib.index t [c]).toNat, by have := Lib.index_ge t [c]; omega⟩
        have hi' : Lib.index (b :: t) [c] = (i + 1 : Nat) := by simp [Lib.index, hp, hi]
        rw [Lib.count_hit (by simp) hi, Nat.add_comm 1, Lib.replaceK_hit _ _ _ _ _ hi] at ih
        rw [Lib.count_hit (by simp) hi', Nat.add_comm 1, Lib.replaceK_hit _ _ _ _ _ hi']
        simp only [List.flatMap_cons, if_neg hb, ← ih]
        simp

/-- Each apostrophe twice. -/
def dbl (l : List UInt8) : List UInt8 := l.flatMap fun b => if b = 39 then [39, 39] else [b]

theorem replaceAll_dbl (l : List UInt8) : Lib.replaceAll l [39] [39, 39] = dbl l := by
  have h : Lib.replaceNum l [39] (-1) = Lib.count l [39] := by simp [Lib.replaceNum]
  simp only [Lib.replaceAll, Lib.replace, h]
  exact rep_one 39 [39, 39] l

theorem dbl_len (l : List UInt8) : (dbl l).length ≤ 2 * l.length := by
  induction l with
  | nil => simp [dbl]
  | cons b t ih =>
    have : dbl (b :: t) = (if b = 39 then [39, 39] else [b]) ++ dbl t := rfl
    rw [this, List.length_append, List.length_cons]
    split <;> simp <;> omega
end Go.Proofs.YtjgojbkmeggmhaaDoor.Cr
