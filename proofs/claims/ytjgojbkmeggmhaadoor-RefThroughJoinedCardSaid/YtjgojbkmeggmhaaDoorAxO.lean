/- RefThroughJoined: the plain law. -/
import Derived.Test.YtjgojbkmeggmhaaDoorAxM
namespace Go.Proofs.YtjgojbkmeggmhaaDoor
open Go.RowKit

theorem bad_check' : Ref.bad.check = 0 := by decide +kernel
theorem bad_thr (l : List Ax.Step) : Ref.bad.thr l = Ref.bad := if_pos (.inl rfl)
theorem check_mk' {r : Ref} (hk : 0 ≤ r.kind ∧ r.kind ≤ 4) (hn : Cr.nameE r.sheet.data.toList = 0) (hm : r.meaning = r) (hp : r.within = true) (ho : r.kind = 0 ∨ (r.row ≤ r.row2 ∧ r.col ≤ r.col2)) : r.check = 0 := by
  unfold Ref.check
  rw [if_neg (by omega), if_neg (by simpa using hn), if_neg, if_neg, if_neg (by omega)]
  · unfold Ref.within at hp; rw [hp]; simp
  · rw [hm, (Ref.same_iff r r).2 rfl]; simp
/-- The reference with other rows. -/
def Ref.at (r : Ref) (f g : Int) : Ref := ⟨r.sheet, r.kind, f, r.col, if r.kind = 0 then 0 else g, r.col2, r.ar, r.ac, r.ar2, r.ac2⟩
theorem at_check {r : Ref} (h : r.check = 0) (h3 : r.kind ≠ 3) (h4 : r.kind ≠ 4) {f g : Int} (hf : 0 ≤ f) (hfg : f ≤ g) (hg : g < 1073741824) : (r.at f g).check = 0 := by
  obtain ⟨k0, k4, hn, hm, h1, h2, h5, h6, ho⟩ := Ref.check_ok h
  have hm2 : (r.at f g).meaning = r.at f g := by
    obtain ⟨sh, k, ro, co, ro2, co2, ar, ac, ar2, ac2⟩ := r
    dsimp only [Ref.at] at *
    have hk : k = 0 ∨ k = 1 ∨ k = 2 := by omega
    rcases hk with rfl | rfl | rfl <;> simp [Ref.meaning] at hm ⊢
    · exact ⟨hm.2.1.symm, hm.2.2.1, hm.2.2.2⟩
    · exact ⟨hm.1.symm, hm.2.1.symm, hm.2.2.1, hm.2.2.2⟩
  refine check_mk' ⟨k0, k4⟩ hn hm2 ?_ ?_
  · simp only [Ref.within, Ref.at, Bool.and_eq_true, perm_iff']
    refine ⟨by omega, h2, ?_, h6⟩
    split <;> omega
  · rcases ho with ho | ho
    · exact .inl ho
    · by_cases hk : r.kind = 0
      · exact .inl hk
      · refine .inr ⟨?_, ho.2⟩
        show f ≤ if r.kind = 0 then 0 else g
        rw [if_neg hk]; exact hfg
theorem at_low2 (r : Ref) (f g : Int) : (r.at f g).low2 = if r.kind = 0 then f else g := by
  unfold Ref.low2 Ref.at
  dsimp only
  split <;> rfl
theorem at_at (r : Ref) (f g x y : Int) : (r.at f g).at x y = r.at x y := rfl
theorem at_same {r : Ref} (h : r.check = 0) : r.at r.row r.low2 = r := by
  have hm := (Ref.check_ok h).2.2.2.1
  obtain ⟨sh, k, ro, co, ro2, co2, ar, ac, ar2, ac2⟩ := r
  unfold Ref.at Ref.low2
  dsimp only
  by_cases hk : k = 0
  · subst hk
    simp only [Ref.meaning, if_true, Ref.mk.injEq] at hm
    simp [hm.2.2.2.2.1]
  · simp [hk]
theorem thr_some {r : Ref} (h : r.check = 0) (h3 : r.kind ≠ 3) (h4 : r.kind ≠ 4) {l : List Ax.Step} {f g : Int} (hh : Ax.Hull l r.row r.low2 = some (f, g)) (hf : 0 ≤ f) (hfg : f ≤ g) (hg : g < 1073741824) : r.thr l = r.at f g := by
  unfold Ref.thr
  rw [if_neg (by omega), hh]
  exact fitting_rows h h3 h4 hf hfg hg
theorem thr_none {r : Ref} (h3 : r.kind ≠ 3) (h4 : r.kind ≠ 4) {l : List Ax.Step} (hh : Ax.Hull l r.row r.low2 = none) : r.thr l = Ref.bad := by
  unfold Ref.thr
  rw [if_neg (by omega), hh]

theorem hull_one {l : List Ax.Step} (ho : ∀ s ∈ l, Ax.okS s) {x f g : Int} (hx : x < 1073741824) (h : Ax.Hull l x x = some (f, g)) : f = g := by
  have h1 := Ax.hull_ext ho (low := x) hx
  rw [h] at h1
  obtain ⟨p, q, k1, k2, -⟩ := h1
  have e1 : p = x := by have := k1.1; have := k1.2.1; omega
  have e2 : q = x := by have := k2.1; have := k2.2.1; omega
  rw [e1] at k1
  rw [e2] at k2
  exact Ax.kept_fun k1 k2
/-- What Through answers, by the range that remains. -/
theorem thr_cases {r : Ref} (h : r.check = 0) (h3 : r.kind ≠ 3) (h4 : r.kind ≠ 4) {l : List Ax.Step} (hc : Ax.check l = 0) (hl : r.low2 + Ax.aft l < 1073741824) :
    (Ax.Hull l r.row r.low2 = none ∧ r.thr l = Ref.bad) ∨ ∃ f g, Ax.Hull l r.row r.low2 = some (f, g) ∧ 0 ≤ f ∧ f ≤ g ∧ g ≤ r.low2 + Ax.aft l ∧ r.thr l = r.at f g ∧ (r.at f g).low2 = g := by
  obtain ⟨ho, -, -, -⟩ := Ax.ck_zero l _ _ _ hc
  have ha := Ax.aft_nonneg ho
  have hlow : r.low2 < 1073741824 := by omega
  cases hH : Ax.Hull l r.row r.low2 with
  | none => exact .inl ⟨rfl, thr_none h3 h4 hH⟩
  | some u =>
    obtain ⟨f, g⟩ := u
    obtain ⟨b1, b2, b3⟩ := Ax.hull_bound ho hlow hH
    refine .inr ⟨f, g, rfl, b1, b2, b3, thr_some h h3 h4 hH b1 b2 (by omega), ?_⟩
    rw [at_low2]
    split
    · rename_i hk
      have e : r.low2 = r.row := if_pos hk
      rw [e] at hH hlow
      exact hull_one ho hlow hH
    · rfl
theorem thr_check {r : Ref} (h : r.check = 0) {l : List Ax.Step} (hc : Ax.check l = 0) (hl : r.low2 + Ax.aft l < 1073741824) : (r.thr l).check = 0 := by
  by_cases hk : r.kind = 4 ∨ r.kind = 3
  · unfold Ref.thr; rw [if_pos hk]; exact h
  · rcases thr_cases h (by omega) (by omega) hc hl with ⟨-, e⟩ | ⟨f, g, -, b1, b2, b3, e, -⟩
    · rw [e]; exact bad_check'
    · rw [e]; exact at_check h (by omega) (by omega) b1 b2 (by omega)
section
variable {r : Ref} {a b c : List Ax.Step} (h : r.check = 0) (ha : Ax.check a = 0) (hb : Ax.check b = 0) (hab : Ax.aft a = Ax.bef b) (hc : Ax.check c = 0)
  (hcj : c = (Ax.puts Ax.Wr.zero (Ax.jn (a.length + b.length + 1) a b)).all) (h1 : Ax.aft a ≤ 268435456) (h2 : Ax.aft b ≤ 268435456) (h3 : r.row ≤ 268435456) (h4 : r.row2 ≤ 268435456)
include h ha hb hab hc hcj h1 h2 h3 h4
theorem thr_join (hk : r.kind = 0 ∨ ∀ s ∈ a, s.1 ≠ 1) : (r.thr a).thr b = r.thr c := by
  obtain ⟨oa, -, -, -⟩ := Ax.ck_zero a _ _ _ ha
  obtain ⟨ob, -, -, -⟩ := Ax.ck_zero b _ _ _ hb
  obtain ⟨oc, -, -, -⟩ := Ax.ck_zero c _ _ _ hc
  have hlow : r.low2 ≤ 268435456 := by unfold Ref.low2; split <;> omega
  have hj : ∀ p, 0 ≤ p → Ax.P c p = (Ax.P a p).bind (Ax.P b) := fun p hp => by
    rw [hcj, Ax.P_same (Ax.puts_zero _ (Ax.jn_ok _ a b oa ob hab)) hp]
    exact Ax.P_join _ a b oa ob hab (by omega) p hp
  by_cases hk4 : r.kind = 4 ∨ r.kind = 3
  · have e : ∀ l, r.thr l = r := fun l => if_pos hk4
    rw [e, e, e]
  rcases thr_cases h (by omega) (by omega) ha (by omega) with ⟨e1, e2⟩ | ⟨f, g, e1, b1, b2, b3, e2, e3⟩
  · rw [e2, bad_thr, thr_none (by omega) (by omega) (Ax.hull_join_none oa oc hj (by omega) e1)]
  · have hs := at_check h (by omega) (by omega) b1 b2 (by omega)
    have hjn : Ax.Hull c r.row r.low2 = Ax.Hull b f g := Ax.hull_join oa ob oc hj (by omega) e1 (by omega) (hk.imp (fun hz => (if_pos hz : r.low2 = r.row).symm) id)
    rw [e2]
    rcases thr_cases hs (show r.kind ≠ 3 by omega) (show r.kind ≠ 4 by omega) hb (by rw [e3]; omega) with ⟨d1, d2⟩ | ⟨x, y, d1, d3, d4, d5, d6, d7⟩
    · rw [e3] at d1
      rw [d2, thr_none (by omega) (by omega) (hjn.trans d1)]
    · rw [e3] at d1 d5
      rw [d6, thr_some h (by omega) (by omega) (hjn.trans d1) d3 d4 (by omega)]
      rfl
omit hb hab hc hcj h2 in
theorem thr_back (hk : ∀ s ∈ a, s.1 ≠ 2) : (r.thr a).thr (Ax.undo a) = r := by
  obtain ⟨oa, -, -, -⟩ := Ax.ck_zero a _ _ _ ha
  have hlow : r.low2 ≤ 268435456 := by unfold Ref.low2; split <;> omega
  by_cases hk4 : r.kind = 4 ∨ r.kind = 3
  · have e : ∀ l, r.thr l = r := fun l => if_pos hk4
    rw [e, e]
  obtain ⟨k0, k4, hn, hm, r1, r2, r5, r6, hor⟩ := Ref.check_ok h
  have hrl : r.row ≤ r.low2 := by unfold Ref.low2; split <;> omega
  obtain ⟨f, g, e1, -, -, -, -, e2⟩ := Ax.hull_back oa hk r1.1 hrl (by omega)
  rcases thr_cases h (by omega) (by omega) ha (by omega) with ⟨e3, -⟩ | ⟨f', g', e3, b1, b2, b3, e4, e5⟩
  · rw [e1] at e3; cases e3
  · rw [e1] at e3
    cases e3
    have hs := at_check h (by omega) (by omega) b1 b2 (by omega)
    rw [e4, thr_some hs (show r.kind ≠ 3 by omega) (show r.kind ≠ 4 by omega) (by rw [e5]; exact e2 (by omega)) r1.1 hrl (by omega)]
    exact at_same h
end
end Go.Proofs.YtjgojbkmeggmhaaDoor
