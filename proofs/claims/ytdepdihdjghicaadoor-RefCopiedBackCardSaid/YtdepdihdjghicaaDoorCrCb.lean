/- A reference that is copied there and back: the plain law. -/
import Derived.Test.YtdepdihdjghicaaDoorCrCo
import Derived.Test.YtdepdihdjghicaaDoorCrTc
namespace Go.Proofs.YtdepdihdjghicaaDoor
open Go.RowKit

/-- A number that is shifted unless it is fixed. -/
def shf (d x : Int) (a : Bool) : Int := if a = true then x else x + d
theorem shf_back (d x : Int) (a : Bool) : shf (-d) (shf d x a) a = x := by
  cases a <;> simp [shf]; omega

theorem perm_zero : Cr.permitted 0 = true := by decide
theorem perm_iff {n : Int} : Cr.permitted n = true ↔ 0 ≤ n ∧ n < 1073741824 := by simp [Cr.permitted]

theorem bad_check : Ref.bad.check = 0 := by decide +kernel
theorem bad_copied (d t : Int) : (Ref.bad.copied d t) = Ref.bad := by
  unfold Ref.copied
  have h1 : (Ref.bad.moved d t).meaning = Ref.bad := by
    simp [Ref.moved, Ref.bad, Ref.meaning]
  rw [h1]
  rfl

theorem check_mk {r : Ref} (hk : 0 ≤ r.kind ∧ r.kind ≤ 4) (hn : Cr.nameE r.sheet.data.toList = 0) (hm : r.meaning = r) (hp : r.within = true) (ho : r.kind = 0 ∨ (r.row ≤ r.row2 ∧ r.col ≤ r.col2)) : r.check = 0 := by
  unfold Ref.check
  rw [if_neg (by omega), if_neg (by simpa using hn), if_neg, if_neg, if_neg (by omega)]
  · unfold Ref.within at hp; rw [hp]; simp
  · rw [hm, (Ref.same_iff r r).2 rfl]; simp

section
variable (sh : ByteArray) (ro co ro2 co2 d t : Int) (ar ac ar2 ac2 : Bool)

theorem copied0 : (Ref.copied ⟨sh, 0, ro, co, 0, 0, ar, ac, false, false⟩ d t) = if Cr.permitted (shf d ro ar) = true ∧ Cr.permitted (shf t co ac) = true then ⟨sh, 0, shf d ro ar, shf t co ac, 0, 0, ar, ac, false, false⟩ else Ref.bad := by
  unfold Ref.copied
  have h1 : (Ref.moved ⟨sh, 0, ro, co, 0, 0, ar, ac, false, false⟩ d t).meaning = ⟨sh, 0, shf d ro ar, shf t co ac, 0, 0, ar, ac, false, false⟩ := by
    simp [Ref.moved, Ref.meaning, shf]
  rw [h1]
  have h2 : Ref.ordered ⟨sh, 0, shf d ro ar, shf t co ac, 0, 0, ar, ac, false, false⟩ = ⟨sh, 0, shf d ro ar, shf t co ac, 0, 0, ar, ac, false, false⟩ := rfl
  rw [h2]
  have h3 : Ref.meaning ⟨sh, 0, shf d ro ar, shf t co ac, 0, 0, ar, ac, false, false⟩ = ⟨sh, 0, shf d ro ar, shf t co ac, 0, 0, ar, ac, false, false⟩ := rfl
  unfold Ref.fitting
  rw [h3]
  simp [Ref.within, perm_zero]

/-- Two numbers in order, each with its mark. -/
structure Pair where
  x : Int
  xa : Bool
  y : Int
  ya : Bool
def Pair.mv (p : Pair) (d : Int) : Pair := if shf d p.y p.ya < shf d p.x p.xa then ⟨shf d p.y p.ya, p.ya, shf d p.x p.xa, p.xa⟩ else ⟨shf d p.x p.xa, p.xa, shf d p.y p.ya, p.ya⟩
theorem Pair.mv_le (p : Pair) (d : Int) : (p.mv d).x ≤ (p.mv d).y := by
  unfold Pair.mv; split <;> simp <;> omega
theorem Pair.back (p : Pair) (d : Int) (h : p.x ≤ p.y) : ((p.mv d).mv (-d)).x = p.x ∧ ((p.mv d).mv (-d)).y = p.y ∧ (p.xa = p.ya → (p.mv d).mv (-d) = p) := by
  obtain ⟨x, xa, y, ya⟩ := p
  dsimp only at h
  have b1 := shf_back d x xa
  have b2 := shf_back d y ya
  unfold Pair.mv
  dsimp only
  by_cases h1 : shf d y ya < shf d x xa
  · rw [if_pos h1]
    dsimp only
    rw [b1, b2]
    by_cases h2 : x < y
    · rw [if_pos h2]; exact ⟨rfl, rfl, fun _ => rfl⟩
    · rw [if_neg h2]
      obtain rfl : x = y := by omega
      exact ⟨rfl, rfl, fun e => by subst e; rfl⟩
  · rw [if_neg h1]
    dsimp only
    rw [b1, b2, if_neg (by omega)]
    exact ⟨rfl, rfl, fun _ => rfl⟩

theorem copied1 : (Ref.copied ⟨sh, 1, ro, co, ro2, co2, ar, ac, ar2, ac2⟩ d t) =
    (if (Cr.permitted ((Pair.mk ro ar ro2 ar2).mv d).x && (Cr.permitted ((Pair.mk co ac co2 ac2).mv t).x && (Cr.permitted ((Pair.mk ro ar ro2 ar2).mv d).y && Cr.permitted ((Pair.mk co ac co2 ac2).mv t).y))) = true then
      ⟨sh, 1, ((Pair.mk ro ar ro2 ar2).mv d).x, ((Pair.mk co ac co2 ac2).mv t).x, ((Pair.mk ro ar ro2 ar2).mv d).y, ((Pair.mk co ac co2 ac2).mv t).y, ((Pair.mk ro ar ro2 ar2).mv d).xa, ((Pair.mk co ac co2 ac2).mv t).xa, ((Pair.mk ro ar ro2 ar2).mv d).ya, ((Pair.mk co ac co2 ac2).mv t).ya⟩ else Ref.bad) := by
  unfold Ref.copied
  have h1 : (Ref.moved ⟨sh, 1, ro, co, ro2, co2, ar, ac, ar2, ac2⟩ d t).meaning = ⟨sh, 1, shf d ro ar, shf t co ac, shf d ro2 ar2, shf t co2 ac2, ar, ac, ar2, ac2⟩ := by
    simp [Ref.moved, Ref.meaning, shf]
  rw [h1]
  have h2 : Ref.ordered ⟨sh, 1, shf d ro ar, shf t co ac, shf d ro2 ar2, shf t co2 ac2, ar, ac, ar2, ac2⟩ = ⟨sh, 1, ((Pair.mk ro ar ro2 ar2).mv d).x, ((Pair.mk co ac co2 ac2).mv t).x, ((Pair.mk ro ar ro2 ar2).mv d).y, ((Pair.mk co ac co2 ac2).mv t).y, ((Pair.mk ro ar ro2 ar2).mv d).xa, ((Pair.mk co ac co2 ac2).mv t).xa, ((Pair.mk ro ar ro2 ar2).mv d).ya, ((Pair.mk co ac co2 ac2).mv t).ya⟩ := by
    unfold Ref.ordered Pair.mv
    dsimp only
    rw [if_neg (by decide)]
    split <;> split <;> rfl
  rw [h2]
  unfold Ref.fitting
  rw [show ∀ a b c e : Int, ∀ f g i j : Bool, Ref.meaning ⟨sh, 1, a, b, c, e, f, g, i, j⟩ = ⟨sh, 1, a, b, c, e, f, g, i, j⟩ from fun _ _ _ _ _ _ _ _ => rfl]
  rfl

theorem copied2 : (Ref.copied ⟨sh, 2, ro, 0, ro2, 0, ar, false, ar2, false⟩ d t) =
    (if (Cr.permitted ((Pair.mk ro ar ro2 ar2).mv d).x && Cr.permitted ((Pair.mk ro ar ro2 ar2).mv d).y) = true then
      ⟨sh, 2, ((Pair.mk ro ar ro2 ar2).mv d).x, 0, ((Pair.mk ro ar ro2 ar2).mv d).y, 0, ((Pair.mk ro ar ro2 ar2).mv d).xa, false, ((Pair.mk ro ar ro2 ar2).mv d).ya, false⟩ else Ref.bad) := by
  unfold Ref.copied
  have h1 : (Ref.moved ⟨sh, 2, ro, 0, ro2, 0, ar, false, ar2, false⟩ d t).meaning = ⟨sh, 2, shf d ro ar, 0, shf d ro2 ar2, 0, ar, false, ar2, false⟩ := by
    simp [Ref.moved, Ref.meaning, shf]
  rw [h1]
  have h2 : Ref.ordered ⟨sh, 2, shf d ro ar, 0, shf d ro2 ar2, 0, ar, false, ar2, false⟩ = ⟨sh, 2, ((Pair.mk ro ar ro2 ar2).mv d).x, 0, ((Pair.mk ro ar ro2 ar2).mv d).y, 0, ((Pair.mk ro ar ro2 ar2).mv d).xa, false, ((Pair.mk ro ar ro2 ar2).mv d).ya, false⟩ := by
    unfold Ref.ordered Pair.mv
    dsimp only
    rw [if_neg (by decide)]
    split <;> rfl
  rw [h2]
  unfold Ref.fitting
  rw [show ∀ a c : Int, ∀ f i : Bool, Ref.meaning ⟨sh, 2, a, 0, c, 0, f, false, i, false⟩ = ⟨sh, 2, a, 0, c, 0, f, false, i, false⟩ from fun _ _ _ _ => rfl]
  simp [Ref.within, perm_zero]

theorem copied3 : (Ref.copied ⟨sh, 3, 0, co, 0, co2, false, ac, false, ac2⟩ d t) =
    (if (Cr.permitted ((Pair.mk co ac co2 ac2).mv t).x && Cr.permitted ((Pair.mk co ac co2 ac2).mv t).y) = true then
      ⟨sh, 3, 0, ((Pair.mk co ac co2 ac2).mv t).x, 0, ((Pair.mk co ac co2 ac2).mv t).y, false, ((Pair.mk co ac co2 ac2).mv t).xa, false, ((Pair.mk co ac co2 ac2).mv t).ya⟩ else Ref.bad) := by
  unfold Ref.copied
  have h1 : (Ref.moved ⟨sh, 3, 0, co, 0, co2, false, ac, false, ac2⟩ d t).meaning = ⟨sh, 3, 0, shf t co ac, 0, shf t co2 ac2, false, ac, false, ac2⟩ := by
    simp [Ref.moved, Ref.meaning, shf]
  rw [h1]
  have h2 : Ref.ordered ⟨sh, 3, 0, shf t co ac, 0, shf t co2 ac2, false, ac, false, ac2⟩ = ⟨sh, 3, 0, ((Pair.mk co ac co2 ac2).mv t).x, 0, ((Pair.mk co ac co2 ac2).mv t).y, false, ((Pair.mk co ac co2 ac2).mv t).xa, false, ((Pair.mk co ac co2 ac2).mv t).ya⟩ := by
    unfold Ref.ordered Pair.mv
    dsimp only
    rw [if_neg (by decide), if_neg (by decide)]
    split <;> rfl
  rw [h2]
  unfold Ref.fitting
  rw [show ∀ a c : Int, ∀ f i : Bool, Ref.meaning ⟨sh, 3, 0, a, 0, c, false, f, false, i⟩ = ⟨sh, 3, 0, a, 0, c, false, f, false, i⟩ from fun _ _ _ _ => rfl]
  simp [Ref.within, perm_zero]
end

/-- What the law asks of a reference that is copied there and back. -/
structure Back (r : Ref) (d t : Int) : Prop where
  ok : (r.copied d t).check = 0
  bad : (r.copied d t).kind = 4 → ((r.copied d t).copied (-d) (-t)).kind = 4
  back : (r.copied d t).kind ≠ 4 → ((r.copied d t).copied (-d) (-t)) = r ∨ (1 ≤ r.kind ∧ ((r.copied d t).copied (-d) (-t)).kind = r.kind ∧ (r.ar ≠ r.ar2 ∨ r.ac ≠ r.ac2))

theorem back_bad {r : Ref} {d t : Int} (h : r.copied d t = Ref.bad) : Back r d t :=
  ⟨by rw [h]; exact bad_check, fun _ => by rw [h, bad_copied]; rfl, fun hk => absurd (by rw [h]; rfl) hk⟩

theorem copied_back (r : Ref) (d t : Int) (hc : r.check = 0) : Back r d t := by
  obtain ⟨hk0, hk4, hn, hmm, hro, hco, hro2, hco2, hord⟩ := Ref.check_ok hc
  obtain ⟨f0, f2, f3, f4⟩ := Ref.meaning_fix hmm
  clear hmm hc
  obtain ⟨sh, k, ro, co, ro2, co2, ar, ac, ar2, ac2⟩ := r
  dsimp only at *
  by_cases k0 : k = 0
  · obtain ⟨rfl, rfl, rfl, rfl⟩ := f0 k0
    subst k0
    have e := copied0 sh ro co d t ar ac
    split at e
    · rename_i hp
      have e2 := copied0 sh (shf d ro ar) (shf t co ac) (-d) (-t) ar ac
      rw [shf_back, shf_back, if_pos ⟨perm_iff.2 hro, perm_iff.2 hco⟩] at e2
      refine ⟨?_, ?_, ?_⟩
      · rw [e]; exact check_mk (by dsimp only; omega) hn rfl (by simp [Ref.within, hp, perm_zero]) (.inl rfl)
      · rw [e]; intro h; cases h
      · rw [e, e2]; intro _; exact .inl rfl
    · exact back_bad e
  by_cases k1 : k = 1
  · subst k1
    have ho : ro ≤ ro2 ∧ co ≤ co2 := by omega
    have e := copied1 sh ro co ro2 co2 d t ar ac ar2 ac2
    have g1 := Pair.mv_le ⟨ro, ar, ro2, ar2⟩ d
    have g2 := Pair.mv_le ⟨co, ac, co2, ac2⟩ t
    obtain ⟨b1, b2, b3⟩ := Pair.back ⟨ro, ar, ro2, ar2⟩ d ho.1
    obtain ⟨c1, c2, c3⟩ := Pair.back ⟨co, ac, co2, ac2⟩ t ho.2
    generalize Pair.mv ⟨ro, ar, ro2, ar2⟩ d = R at *
    generalize Pair.mv ⟨co, ac, co2, ac2⟩ t = C at *
    obtain ⟨rx, rxa, ry, rya⟩ := R
    obtain ⟨cx, cxa, cy, cya⟩ := C
    dsimp only at *
    split at e
    · rename_i hp
      have e2 := copied1 sh rx cx ry cy (-d) (-t) rxa cxa rya cya
      rw [b1, b2, c1, c2, if_pos (by simp [perm_iff.2 hro, perm_iff.2 hco, perm_iff.2 hro2, perm_iff.2 hco2])] at e2
      refine ⟨?_, ?_, ?_⟩
      · rw [e]; exact check_mk (by dsimp only; omega) hn rfl hp (.inr ⟨g1, g2⟩)
      · rw [e]; intro h; cases h
      · rw [e, e2]
        intro _
        by_cases ha : ar = ar2
        · by_cases hb : ac = ac2
          · left; rw [b3 ha, c3 hb]
          · exact .inr ⟨by dsimp only; omega, rfl, .inr hb⟩
        · exact .inr ⟨by dsimp only; omega, rfl, .inl ha⟩
    · exact back_bad e
  by_cases k2 : k = 2
  · obtain ⟨rfl, rfl, rfl, rfl⟩ := f2 k2
    subst k2
    have ho : ro ≤ ro2 := by omega
    have e := copied2 sh ro ro2 d t ar ar2
    have g1 := Pair.mv_le ⟨ro, ar, ro2, ar2⟩ d
    obtain ⟨b1, b2, b3⟩ := Pair.back ⟨ro, ar, ro2, ar2⟩ d ho
    generalize Pair.mv ⟨ro, ar, ro2, ar2⟩ d = R at *
    obtain ⟨rx, rxa, ry, rya⟩ := R
    dsimp only at *
    split at e
    · rename_i hp
      have e2 := copied2 sh rx ry (-d) (-t) rxa rya
      rw [b1, b2, if_pos (by simp [perm_iff.2 hro, perm_iff.2 hro2])] at e2
      refine ⟨?_, ?_, ?_⟩
      · rw [e]; exact check_mk (by dsimp only; omega) hn rfl (by simp at hp; simp [Ref.within, hp, perm_zero]) (.inr ⟨g1, Int.le_refl _⟩)
      · rw [e]; intro h; cases h
      · rw [e, e2]
        intro _
        by_cases ha : ar = ar2
        · left; rw [b3 ha]
        · exact .inr ⟨by dsimp only; omega, rfl, .inl ha⟩
    · exact back_bad e
  by_cases k3 : k = 3
  · obtain ⟨rfl, rfl, rfl, rfl⟩ := f3 k3
    subst k3
    have ho : co ≤ co2 := by omega
    have e := copied3 sh co co2 d t ac ac2
    have g1 := Pair.mv_le ⟨co, ac, co2, ac2⟩ t
    obtain ⟨b1, b2, b3⟩ := Pair.back ⟨co, ac, co2, ac2⟩ t ho
    generalize Pair.mv ⟨co, ac, co2, ac2⟩ t = R at *
    obtain ⟨rx, rxa, ry, rya⟩ := R
    dsimp only at *
    split at e
    · rename_i hp
      have e2 := copied3 sh rx ry (-d) (-t) rxa rya
      rw [b1, b2, if_pos (by simp [perm_iff.2 hco, perm_iff.2 hco2])] at e2
      refine ⟨?_, ?_, ?_⟩
      · rw [e]; exact check_mk (by dsimp only; omega) hn rfl (by simp at hp; simp [Ref.within, hp, perm_zero]) (.inr ⟨Int.le_refl _, g1⟩)
      · rw [e]; intro h; cases h
      · rw [e, e2]
        intro _
        by_cases ha : ac = ac2
        · left; rw [b3 ha]
        · exact .inr ⟨by dsimp only; omega, rfl, .inr ha⟩
    · exact back_bad e
  · have hk : k = 4 := by omega
    have hb := f4 hk
    rw [hb]
    exact back_bad (bad_copied d t)
end Go.Proofs.YtdepdihdjghicaaDoor
