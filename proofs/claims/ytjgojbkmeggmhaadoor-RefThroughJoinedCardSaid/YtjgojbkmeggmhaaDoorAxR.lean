/- Changes of rows: what remains of a range of rows (plain laws). -/
import Derived.Test.YtjgojbkmeggmhaaDoorAxQ
namespace Go.Proofs.YtjgojbkmeggmhaaDoor.Ax

def kp (low high old now n : Int) : Option (Int × Int) :=
  if max low old ≤ min high (old + n - 1) then some (now + max low old - old, now + min high (old + n - 1) - old) else none
def cmb (x y : Option (Int × Int)) : Option (Int × Int) := match x, y with
  | none, y => y
  | some u, none => some u
  | some u, some v => some (u.1, v.2)
def hullF (low high : Int) : Int → Int → List Step → Option (Int × Int) → Option (Int × Int)
  | old, now, [], acc => cmb acc (kp low high old now 1073741824)
  | old, now, (k, n) :: t, acc =>
    hullF low high (if k ≠ 1 then old + n else old) (if k ≠ 2 then now + n else now) t (if k = 0 then cmb acc (kp low high old now n) else acc)
def Hull (l : List Step) (low high : Int) : Option (Int × Int) := hullF low high 0 0 l none
theorem cmb_assoc (x y z : Option (Int × Int)) : cmb (cmb x y) z = cmb x (cmb y z) := by
  cases x <;> cases y <;> cases z <;> rfl
theorem cmb_none (x : Option (Int × Int)) : cmb x none = x := by cases x <;> rfl
def Kept (low high old now : Int) (l : List Step) (p y : Int) : Prop := low ≤ p ∧ p ≤ high ∧ old ≤ p ∧ P l (p - old) = some (y - now)
def Ext (low high old now : Int) (l : List Step) : Option (Int × Int) → Prop
  | none => ∀ p y, ¬ Kept low high old now l p y
  | some (f, g) => ∃ p q, Kept low high old now l p f ∧ Kept low high old now l q g ∧ ∀ r z, Kept low high old now l r z → p ≤ r ∧ r ≤ q
theorem ext_congr {low high old now old' now' : Int} {l l' : List Step} (h : ∀ p y, Kept low high old now l p y ↔ Kept low high old' now' l' p y) {E : Option (Int × Int)} (he : Ext low high old' now' l' E) : Ext low high old now l E := by
  match E, he with
  | none, he => exact fun p y hk => he p y ((h p y).1 hk)
  | some (f, g), ⟨p, q, h1, h2, h3⟩ => exact ⟨p, q, (h p f).2 h1, (h q g).2 h2, fun r z hk => h3 r z ((h r z).1 hk)⟩
theorem kept_keep {low high old now n : Int} {t : List Step} {p y : Int} (hn : 1 ≤ n) : Kept low high old now ((0, n) :: t) p y ↔
    (low ≤ p ∧ p ≤ high ∧ old ≤ p ∧ p < old + n ∧ y = now + p - old) ∨ Kept low high (old + n) (now + n) t p y := by
  unfold Kept
  rw [P_keep]
  constructor
  · intro ⟨h1, h2, h3, h4⟩
    split at h4
    · left
      have := Option.some.inj h4
      omega
    · right
      obtain ⟨z, hz, e⟩ := Option.map_eq_some_iff.1 h4
      refine ⟨h1, h2, by omega, ?_⟩
      rw [show p - (old + n) = p - old - n by omega, hz]
      congr 1; omega
  · intro h
    rcases h with ⟨h1, h2, h3, h4, h5⟩ | ⟨h1, h2, h3, h4⟩
    · refine ⟨h1, h2, h3, ?_⟩
      rw [if_pos (by omega)]
      congr 1; omega
    · refine ⟨h1, h2, by omega, ?_⟩
      rw [if_neg (by omega), show p - old - n = p - (old + n) by omega, h4]
      show some _ = some _
      congr 1; dsimp only; omega
theorem kept_add {low high old now n : Int} {t : List Step} {p y : Int} : Kept low high old now ((1, n) :: t) p y ↔ Kept low high old (now + n) t p y := by
  unfold Kept
  rw [P_add]
  constructor
  · intro ⟨h1, h2, h3, h4⟩
    obtain ⟨z, hz, e⟩ := Option.map_eq_some_iff.1 h4
    refine ⟨h1, h2, h3, ?_⟩
    rw [hz]; congr 1; omega
  · intro ⟨h1, h2, h3, h4⟩
    refine ⟨h1, h2, h3, ?_⟩
    rw [h4]
    show some _ = some _
    congr 1; dsimp only; omega
theorem kept_cut {low high old now n : Int} {t : List Step} {p y : Int} (hn : 1 ≤ n) : Kept low high old now ((2, n) :: t) p y ↔ Kept low high (old + n) now t p y := by
  unfold Kept
  rw [P_cut]
  constructor
  · intro ⟨h1, h2, h3, h4⟩
    split at h4
    · cases h4
    · exact ⟨h1, h2, by omega, by rw [show p - (old + n) = p - old - n by omega]; exact h4⟩
  · intro ⟨h1, h2, h3, h4⟩
    exact ⟨h1, h2, by omega, by rw [if_neg (by omega), show p - old - n = p - (old + n) by omega]; exact h4⟩
theorem ext_keep {low high old now n : Int} {t : List Step} (hn : 1 ≤ n) {E : Option (Int × Int)} (h : Ext low high (old + n) (now + n) t E) : Ext low high old now ((0, n) :: t) (cmb (kp low high old now n) E) := by
  unfold kp
  split
  · rename_i hp
    have k1 : Kept low high old now ((0, n) :: t) (max low old) (now + max low old - old) := (kept_keep hn).2 (.inl (by omega))
    have k2 : Kept low high old now ((0, n) :: t) (min high (old + n - 1)) (now + min high (old + n - 1) - old) := (kept_keep hn).2 (.inl (by omega))
    match E, h with
    | none, h =>
      refine ⟨_, _, k1, k2, fun r z hk => ?_⟩
      rcases (kept_keep hn).1 hk with h5 | h5
      · omega
      · exact absurd h5 (h r z)
    | some (f, g), ⟨p, q, h1, h2, h3⟩ =>
      refine ⟨_, q, k1, (kept_keep hn).2 (.inr h2), fun r z hk => ?_⟩
      have := h2.2.2.1
      rcases (kept_keep hn).1 hk with h5 | h5
      · omega
      · have h6 := h3 r z h5
        have := h5.1
        have := h5.2.2.1
        omega
  · rename_i hp
    match E, h with
    | none, h =>
      intro r z hk
      rcases (kept_keep hn).1 hk with h5 | h5
      · omega
      · exact h r z h5
    | some (f, g), ⟨p, q, h1, h2, h3⟩ =>
      refine ⟨p, q, (kept_keep hn).2 (.inr h1), (kept_keep hn).2 (.inr h2), fun r z hk => ?_⟩
      rcases (kept_keep hn).1 hk with h5 | h5
      · omega
      · exact h3 r z h5
theorem ext_nil {low high old now : Int} (h0 : 0 ≤ old) (hh : high < 1073741824) : Ext low high old now [] (kp low high old now 1073741824) := by
  unfold kp
  split
  · rename_i hp
    refine ⟨max low old, min high (old + 1073741824 - 1), ⟨by omega, by omega, by omega, ?_⟩, ⟨by omega, by omega, by omega, ?_⟩, fun r z hk => ?_⟩
    · rw [P_nil]; congr 1; omega
    · rw [P_nil]; congr 1; omega
    · have := hk.1
      have := hk.2.1
      have := hk.2.2.1
      omega
  · rename_i hp
    intro r z hk
    have := hk.1
    have := hk.2.1
    have := hk.2.2.1
    omega
theorem hullF_ext {low high : Int} (hh : high < 1073741824) : ∀ (l : List Step), (∀ s ∈ l, okS s) → ∀ (old now : Int), 0 ≤ old → ∃ E, Ext low high old now l E ∧ ∀ acc, hullF low high old now l acc = cmb acc E
  | [], _, old, now, h0 => ⟨_, ext_nil h0 hh, fun _ => rfl⟩
  | (k, n) :: t, ho, old, now, h0 => by
    have ih := hullF_ext (low := low) hh t fun s hs => ho s (List.mem_cons_of_mem _ hs)
    obtain ⟨hk, hn⟩ := okS_cases (ho (k, n) (List.mem_cons_self ..))
    dsimp only at hk hn
    rcases hk with rfl | rfl | rfl
    · obtain ⟨E, h1, h2⟩ := ih (old + n) (now + n) (by omega)
      exact ⟨_, ext_keep hn h1, fun acc => (h2 _).trans (cmb_assoc _ _ _)⟩
    · obtain ⟨E, h1, h2⟩ := ih old (now + n) h0
      exact ⟨E, ext_congr (fun _ _ => kept_add) h1, fun acc => h2 _⟩
    · obtain ⟨E, h1, h2⟩ := ih (old + n) now (by omega)
      exact ⟨E, ext_congr (fun _ _ => kept_cut hn) h1, fun acc => h2 _⟩
theorem hull_ext {l : List Step} (ho : ∀ s ∈ l, okS s) {low high : Int} (hh : high < 1073741824) : Ext low high 0 0 l (Hull l low high) := by
  obtain ⟨E, h1, h2⟩ := hullF_ext (low := low) hh l ho 0 0 (Int.le_refl _)
  have := h2 none
  unfold Hull
  rw [this]
  exact h1
theorem kept_fun {low high old now : Int} {l : List Step} {p y z : Int} (h : Kept low high old now l p y) (k : Kept low high old now l p z) : y = z := by
  have := h.2.2.2.symm.trans k.2.2.2
  have := Option.some.inj this
  omega
theorem ext_unique {low high old now : Int} {l : List Step} {E F : Option (Int × Int)} (h : Ext low high old now l E) (k : Ext low high old now l F) : E = F := by
  match E, F, h, k with
  | none, none, _, _ => rfl
  | none, some (f, g), h, ⟨p, q, h1, _, _⟩ => exact absurd h1 (h p f)
  | some (f, g), none, ⟨p, q, h1, _, _⟩, k => exact absurd h1 (k p f)
  | some (f, g), some (f', g'), ⟨p, q, h1, h2, h3⟩, ⟨p', q', k1, k2, k3⟩ =>
    have e1 := h3 _ _ k1
    have e2 := h3 _ _ k2
    have e3 := k3 _ _ h1
    have e4 := k3 _ _ h2
    obtain rfl : p = p' := by omega
    obtain rfl : q = q' := by omega
    rw [kept_fun h1 k1, kept_fun h2 k2]
theorem kept0 {low high : Int} {l : List Step} {p y : Int} : Kept low high 0 0 l p y ↔ low ≤ p ∧ p ≤ high ∧ 0 ≤ p ∧ P l p = some y := by
  unfold Kept
  rw [Int.sub_zero, Int.sub_zero]
theorem P_mono_le {l : List Step} (ho : ∀ s ∈ l, okS s) {p q y z : Int} (hp : 0 ≤ p) (hpq : p ≤ q) (h1 : P l p = some y) (h2 : P l q = some z) : y ≤ z := by
  rcases Int.lt_or_eq_of_le hpq with h | h
  · exact Int.le_of_lt (P_mono ho hp h h1 h2)
  · subst h; rw [h1] at h2; cases h2; exact Int.le_refl _
theorem P_mono_le' {l : List Step} (ho : ∀ s ∈ l, okS s) {p q y z : Int} (hq : 0 ≤ q) (h1 : P l p = some y) (h2 : P l q = some z) (h : y ≤ z) (_hp : 0 ≤ p) : p ≤ q := by
  rcases Int.lt_trichotomy p q with h3 | h3 | h3
  · omega
  · omega
  · have := P_mono ho hq h3 h2 h1; omega
/-- What remains after a joined change. -/
theorem hull_join {a b c : List Step} (ha : ∀ s ∈ a, okS s) (hb : ∀ s ∈ b, okS s) (hc : ∀ s ∈ c, okS s) (hj : ∀ p, 0 ≤ p → P c p = (P a p).bind (P b)) {low high f g : Int}
    (hh : high < 1073741824) (he : Hull a low high = some (f, g)) (hg : g < 1073741824) (hon : low = high ∨ ∀ s ∈ a, s.1 ≠ 1) : Hull c low high = Hull b f g := by
  have h1 := hull_ext ha (low := low) hh
  rw [he] at h1
  obtain ⟨p0, q0, k1, k2, k3⟩ := h1
  rw [kept0] at k1 k2
  obtain ⟨a1, a2, a3, a4⟩ := k1
  obtain ⟨b1, b2, b3, b4⟩ := k2
  have hf0 := P_nonneg ha a3 a4
  have hpre : ∀ y, f ≤ y → y ≤ g → ∃ p, low ≤ p ∧ p ≤ high ∧ 0 ≤ p ∧ P a p = some y := fun y y1 y2 => by
    rcases hon with h | h
    · obtain rfl : p0 = q0 := by omega
      rw [a4] at b4
      cases b4
      obtain rfl : y = f := by omega
      exact ⟨p0, a1, a2, a3, a4⟩
    · obtain ⟨p, c1, c2⟩ := P_onto ha h (y := y) (by omega)
      have := P_mono_le' ha c1 a4 c2 y1 a3
      have := P_mono_le' ha b3 c2 b4 y2 c1
      exact ⟨p, by omega, by omega, c1, c2⟩
  have h2 := hull_ext hb (low := f) hg
  refine ext_unique (hull_ext hc (low := low) hh) ?_
  generalize Hull b f g = E at h2
  match E, h2 with
  | none, h2 =>
    intro p y hk
    rw [kept0] at hk
    obtain ⟨c1, c2, c3, c4⟩ := hk
    rw [hj p c3] at c4
    obtain ⟨z, z1, z2⟩ := Option.bind_eq_some_iff.1 c4
    have e := k3 p z (kept0.2 ⟨c1, c2, c3, z1⟩)
    have := P_mono_le ha a3 e.1 a4 z1
    have := P_mono_le ha c3 e.2 z1 b4
    exact h2 z y (kept0.2 ⟨by omega, by omega, by omega, z2⟩)
  | some (f2, g2), ⟨y1, y2, d1, d2, d3⟩ =>
    rw [kept0] at d1 d2
    obtain ⟨p1, s1, s2, s3, s4⟩ := hpre y1 d1.1 d1.2.1
    obtain ⟨p2, t1, t2, t3, t4⟩ := hpre y2 d2.1 d2.2.1
    refine ⟨p1, p2, kept0.2 ⟨s1, s2, s3, ?_⟩, kept0.2 ⟨t1, t2, t3, ?_⟩, fun r z hk => ?_⟩
    · rw [hj _ s3, s4]; exact d1.2.2.2
    · rw [hj _ t3, t4]; exact d2.2.2.2
    · rw [kept0] at hk
      obtain ⟨c1, c2, c3, c4⟩ := hk
      rw [hj _ c3] at c4
      obtain ⟨x, x1, x2⟩ := Option.bind_eq_some_iff.1 c4
      have e := k3 r x (kept0.2 ⟨c1, c2, c3, x1⟩)
      have m1 := P_mono_le ha a3 e.1 a4 x1
      have m2 := P_mono_le ha c3 e.2 x1 b4
      have n := d3 x z (kept0.2 ⟨m1, m2, by omega, x2⟩)
      exact ⟨P_mono_le' ha c3 s4 x1 n.1 s3, P_mono_le' ha t3 x1 t4 n.2 c3⟩
theorem hull_join_none {a b c : List Step} (ha : ∀ s ∈ a, okS s) (hc : ∀ s ∈ c, okS s) (hj : ∀ p, 0 ≤ p → P c p = (P a p).bind (P b)) {low high : Int}
    (hh : high < 1073741824) (he : Hull a low high = none) : Hull c low high = none := by
  have h1 := hull_ext ha (low := low) hh
  rw [he] at h1
  refine ext_unique (hull_ext hc (low := low) hh) ?_
  intro p y hk
  rw [kept0] at hk
  obtain ⟨c1, c2, c3, c4⟩ := hk
  rw [hj p c3] at c4
  obtain ⟨z, z1, z2⟩ := Option.bind_eq_some_iff.1 c4
  exact h1 p z (kept0.2 ⟨c1, c2, c3, z1⟩)
/-- Without removed rows all of a range remains, and comes back. -/
theorem hull_back {a : List Step} (ha : ∀ s ∈ a, okS s) (hn : ∀ s ∈ a, s.1 ≠ 2) {low high : Int} (h0 : 0 ≤ low) (hlh : low ≤ high) (hh : high < 1073741824) :
    ∃ f g, Hull a low high = some (f, g) ∧ low ≤ f ∧ f ≤ g ∧ P a low = some f ∧ P a high = some g ∧ (g < 1073741824 → Hull (undo a) f g = some (low, high)) := by
  obtain ⟨f, hf⟩ := P_total ha hn h0
  obtain ⟨g, hg⟩ := P_total ha hn (p := high) (by omega)
  have hfg := P_mono_le ha h0 hlh hf hg
  have e : Hull a low high = some (f, g) := ext_unique (hull_ext ha (low := low) hh) ⟨low, high, kept0.2 ⟨by omega, by omega, by omega, hf⟩, kept0.2 ⟨by omega, by omega, by omega, hg⟩, fun r z hk => by
    rw [kept0] at hk; omega⟩
  have hlf : ∀ {l : List Step}, (∀ s ∈ l, okS s) → (∀ s ∈ l, s.1 ≠ 2) → ∀ {p y : Int}, 0 ≤ p → P l p = some y → p ≤ y := by
    intro l
    induction l with
    | nil => intro _ _ p y _ h; rw [P_nil] at h; cases h; exact Int.le_refl _
    | cons s t ih =>
      obtain ⟨k, n⟩ := s
      intro o1 o2 p y hp h
      have ih := @ih (fun s hs => o1 s (List.mem_cons_of_mem _ hs)) (fun s hs => o2 s (List.mem_cons_of_mem _ hs))
      obtain ⟨hk, hn⟩ := okS_cases (o1 (k, n) (List.mem_cons_self ..))
      have h2 := o2 (k, n) (List.mem_cons_self ..)
      dsimp only at hk hn h2
      rcases hk with rfl | rfl | rfl
      · rw [P_keep] at h
        split at h
        · cases h; exact Int.le_refl _
        · obtain ⟨z, hz, rfl⟩ := Option.map_eq_some_iff.1 h
          have := ih (by omega) hz
          omega
      · rw [P_add] at h
        obtain ⟨z, hz, rfl⟩ := Option.map_eq_some_iff.1 h
        have := ih hp hz
        omega
      · exact absurd rfl h2
  refine ⟨f, g, e, hlf ha hn h0 hf, hfg, hf, hg, fun hg2 => ?_⟩
  refine ext_unique (hull_ext (undo_ok ha) (low := f) hg2) ⟨f, g, kept0.2 ⟨by omega, by omega, P_nonneg ha h0 hf, P_undo ha h0 hf⟩, kept0.2 ⟨by omega, by omega, by have := P_nonneg ha h0 hf; omega, P_undo ha (by omega) hg⟩, fun r z hk => ?_⟩
  rw [kept0] at hk; omega
/-- A row goes no further than the rows that there are. -/
theorem P_bound : ∀ {l : List Step}, (∀ s ∈ l, okS s) → ∀ {p y : Int}, 0 ≤ p → P l p = some y → y ≤ p + aft l
  | [], _, p, y, _, h => by rw [P_nil] at h; cases h; simp [aft]
  | (k, n) :: t, ho, p, y, hp, h => by
    have ho' : ∀ s ∈ t, okS s := fun s hs => ho s (List.mem_cons_of_mem _ hs)
    have ih := @P_bound t ho'
    have h0 := aft_nonneg ho'
    obtain ⟨hk, hn⟩ := okS_cases (ho (k, n) (List.mem_cons_self ..))
    dsimp only at hk hn
    rcases hk with rfl | rfl | rfl
    · rw [P_keep] at h
      simp only [aft]
      split at h
      · cases h; simp; omega
      · obtain ⟨z, hz, rfl⟩ := Option.map_eq_some_iff.1 h
        have := ih (p := p - n) (by omega) hz
        simp; omega
    · rw [P_add] at h
      obtain ⟨z, hz, rfl⟩ := Option.map_eq_some_iff.1 h
      have := ih hp hz
      simp [aft]; omega
    · rw [P_cut] at h
      split at h
      · cases h
      · have := ih (p := p - n) (by omega) h
        simp [aft]; omega
theorem hull_bound {l : List Step} (ho : ∀ s ∈ l, okS s) {low high f g : Int} (hh : high < 1073741824) (h : Hull l low high = some (f, g)) : 0 ≤ f ∧ f ≤ g ∧ g ≤ high + aft l := by
  have h1 := hull_ext ho (low := low) hh
  rw [h] at h1
  obtain ⟨p0, q0, k1, k2, k3⟩ := h1
  have k4 := k3 _ _ k2
  rw [kept0] at k1 k2
  have := P_bound ho k2.2.2.1 k2.2.2.2
  exact ⟨P_nonneg ho k1.2.2.1 k1.2.2.2, P_mono_le ho k1.2.2.1 k4.1 k1.2.2.2 k2.2.2.2, by omega⟩
/-! The undone change as the writer collects it. -/
theorem hull_nil {low high : Int} (h0 : 0 ≤ low) (hlh : low ≤ high) (hh : high < 1073741824) : Hull [] low high = some (low, high) :=
  ext_unique (hull_ext (l := []) (by simp) (low := low) hh) ⟨low, high, kept0.2 ⟨by omega, by omega, by omega, P_nil _⟩, kept0.2 ⟨by omega, by omega, by omega, P_nil _⟩, fun r z hk => by
    rw [kept0] at hk; omega⟩
/-- Steps without removed rows, in form: the writer's state while it takes back. -/
theorem undo_all : ∀ (l : List Step) (pv : Option Int) (w : Wr), (∀ s ∈ l, okS s) → (∀ s ∈ l, s.1 ≠ 2) → Form pv l → w.add = 0 → 0 ≤ w.cut → (w.cut ≠ 0 → pv = some 1) →
    (w.cut = 0 → ∀ m, w.out.getLast? = some (0, m) → pv = some 0) → (puts w (undo l)).all = w.all ++ undo l
  | [], _, _, _, _, _, _, _, _, _ => by simp [undo, puts]
  | (k, n) :: t, pv, w, ho, hc, hf, w1, w2, w3, w4 => by
    obtain ⟨hk, hn⟩ := okS_cases (ho (k, n) (List.mem_cons_self ..))
    have hc1 := hc (k, n) (List.mem_cons_self ..)
    have ih := undo_all t (some k)
    have ho' : ∀ s ∈ t, okS s := fun s hs => ho s (List.mem_cons_of_mem _ hs)
    have hc' : ∀ s ∈ t, s.1 ≠ 2 := fun s hs => hc s (List.mem_cons_of_mem _ hs)
    dsimp only at hk hn hc1
    obtain ⟨out, add, cut⟩ := w
    dsimp only at w1 w2 w3 w4
    subst w1
    have hbad := hf.1
    rcases hk with rfl | rfl | rfl
    · show (puts ((⟨out, 0, cut⟩ : Wr).put 0 n) (undo t)).all = _ ++ (0, n) :: undo t
      have hp : (⟨out, 0, cut⟩ : Wr).put 0 n = ⟨(⟨out, 0, cut⟩ : Wr).all ++ [(0, n)], 0, 0⟩ := by
        unfold Wr.put
        rw [if_neg (by omega), if_neg (by decide), if_neg (by decide)]
        congr 1
        show joinK (⟨out, 0, cut⟩ : Wr).all n = _
        unfold joinK
        split
        · rename_i j m hj
          rw [if_neg]
          intro hj0
          subst hj0
          by_cases hcut : cut = 0
          · subst hcut
            have : (⟨out, 0, 0⟩ : Wr).all = out := by simp [Wr.all, Wr.flush, adds, cuts]
            rw [this] at hj
            rw [w4 rfl m hj] at hbad
            simp [badF] at hbad
          · have : (⟨out, 0, cut⟩ : Wr).all = out ++ [(2, cut)] := by
              simp only [Wr.all, Wr.flush, adds, cuts]
              rw [if_neg (by decide), if_pos (by omega), List.append_nil]
            rw [this, List.getLast?_concat] at hj
            have := congrArg (fun o : Option Step => o.map Prod.fst) hj
            simp at this
        · rfl
      rw [hp, ih _ ho' hc' hf.2 rfl (Int.le_refl _) (fun h => absurd rfl h) (fun _ _ _ => rfl)]
      simp [Wr.all, Wr.flush, adds, cuts]
    · show (puts ((⟨out, 0, cut⟩ : Wr).put 2 n) (undo t)).all = _ ++ (2, n) :: undo t
      have hcut : cut = 0 := by
        by_cases h : cut = 0
        · exact h
        · have := w3 h
          rw [this] at hbad
          simp [badF] at hbad
      subst hcut
      have hp : (⟨out, 0, 0⟩ : Wr).put 2 n = ⟨out, 0, 0 + n⟩ := by
        unfold Wr.put
        rw [if_neg (by omega), if_neg (by decide), if_pos rfl]
      rw [hp, ih _ ho' hc' hf.2 rfl (by dsimp only; omega) (fun _ => rfl) (fun h => by dsimp only at h; omega)]
      simp only [Wr.all, Wr.flush, adds, cuts]
      rw [if_neg (by decide), if_pos (by omega), if_neg (by decide)]
      simp
    · exact absurd rfl hc1
theorem undo_writes {l : List Step} (ho : ∀ s ∈ l, okS s) (hc : ∀ s ∈ l, s.1 ≠ 2) (hf : Form none l) : (puts Wr.zero (undo l)).all = undo l := by
  rw [undo_all l none Wr.zero ho hc hf rfl (Int.le_refl _) (fun h => absurd rfl h) (fun _ m h => by cases h)]
  rfl
theorem bef_undo : ∀ {l : List Step}, (∀ s ∈ l, okS s) → bef (undo l) = aft l ∧ aft (undo l) = bef l
  | [], _ => ⟨rfl, rfl⟩
  | (k, n) :: t, ho => by
    obtain ⟨hk, hn⟩ := okS_cases (ho (k, n) (List.mem_cons_self ..))
    obtain ⟨h1, h2⟩ := @bef_undo t fun s hs => ho s (List.mem_cons_of_mem _ hs)
    dsimp only at hk
    rcases hk with rfl | rfl | rfl
    · show (_ + bef (undo t) = _ + aft t) ∧ (_ + aft (undo t) = _ + bef t)
      rw [h1, h2]; simp [und]
    · show (_ + bef (undo t) = _ + aft t) ∧ (_ + aft (undo t) = _ + bef t)
      rw [h1, h2]; simp [und]
    · show (_ + bef (undo t) = _ + aft t) ∧ (_ + aft (undo t) = _ + bef t)
      rw [h1, h2]; simp [und]
theorem form_undo : ∀ {l : List Step} {pv : Option Int}, (∀ s ∈ l, okS s) → (∀ s ∈ l, s.1 ≠ 2) → Form pv l → (∀ k, pv = some k → k = 0 ∨ k = 1) → Form (pv.map und) (undo l)
  | [], _, _, _, _, _ => trivial
  | (k, n) :: t, pv, ho, hc, hf, hp => by
    obtain ⟨hk, hn⟩ := okS_cases (ho (k, n) (List.mem_cons_self ..))
    have hc1 := hc (k, n) (List.mem_cons_self ..)
    dsimp only at hk hc1
    refine ⟨?_, @form_undo t (some k) (fun s hs => ho s (List.mem_cons_of_mem _ hs)) (fun s hs => hc s (List.mem_cons_of_mem _ hs)) hf.2 (fun j hj => by cases hj; omega)⟩
    have h1 := hf.1
    cases pv with
    | none => rfl
    | some j =>
      have hj := hp j rfl
      have hk2 : k = 0 ∨ k = 1 := by omega
      rcases hj with rfl | rfl <;> rcases hk2 with rfl | rfl <;> first | rfl | (simp [badF] at h1)
theorem undo_check {l : List Step} (h : check l = 0) (hc : ∀ s ∈ l, s.1 ≠ 2) : check (undo l) = 0 := by
  obtain ⟨h1, h2, h3, h4⟩ := ck_zero l _ _ _ h
  obtain ⟨e1, e2⟩ := bef_undo h1
  exact ck_of _ _ _ _ (undo_ok h1) (form_undo h1 hc h2 (by simp)) (by rw [e1]; omega) (by rw [e2]; omega)
end Go.Proofs.YtjgojbkmeggmhaaDoor.Ax
