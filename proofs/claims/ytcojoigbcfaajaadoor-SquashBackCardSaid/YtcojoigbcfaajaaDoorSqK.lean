/- Plain: the lengths that package-merge gives are between 1 and 15 and meet Kraft's inequality. -/
import Derived.Test.YtcojoigbcfaajaaDoorRows
namespace Go.Proofs.YtcojoigbcfaajaaDoor.Sq

/-- Neighbours are put together. -/
def pairUp : List (List Nat) → List (List Nat)
  | a :: b :: t => (a ++ b) :: pairUp t
  | _ => []
def prs {α : Type} : List α → List (α × α)
  | a :: b :: t => (a, b) :: prs t
  | _ => []
theorem pairUp_prs : ∀ l : List (List Nat), pairUp l = (prs l).map fun p => p.1 ++ p.2
  | [] => rfl
  | [_] => rfl
  | a :: b :: t => by simp only [pairUp, prs, List.map_cons]; rw [pairUp_prs t]
theorem prs_flat {α : Type} : ∀ l : List α, ∃ r, (prs l).flatMap (fun p => [p.1, p.2]) ++ r = l
  | [] => ⟨[], rfl⟩
  | [x] => ⟨[x], rfl⟩
  | a :: b :: t => by
    obtain ⟨r, hr⟩ := prs_flat t
    exact ⟨r, by simp only [prs, List.flatMap_cons, List.cons_append, List.nil_append, hr]⟩
theorem pairUp_len : ∀ l : List (List Nat), (pairUp l).length = l.length / 2
  | [] => rfl
  | [_] => by simp [pairUp]
  | a :: b :: t => by simp only [pairUp, List.length_cons]; rw [pairUp_len t]; omega

def Sub {α : Type} (S L : List α) : Prop := ∃ R, (S ++ R).Perm L
theorem perm_map_inv {α β : Type} (f : α → β) {l1 l2 : List β} (h : l1.Perm l2) : ∀ X : List α, l2 = X.map f → ∃ X' : List α, X'.Perm X ∧ l1 = X'.map f := by
  induction h with
  | nil =>
    intro X hX
    have : X = [] := by cases X with
      | nil => rfl
      | cons x t => simp at hX
    subst this
    exact ⟨[], .refl _, rfl⟩
  | cons a _ ih =>
    intro X hX
    cases X with
    | nil => simp at hX
    | cons x t =>
      simp only [List.map_cons, List.cons.injEq] at hX
      obtain ⟨t', ht, e⟩ := ih t hX.2
      exact ⟨x :: t', ht.cons x, by rw [List.map_cons, ← hX.1, e]⟩
  | swap a b l =>
    intro X hX
    match X, hX with
    | x :: y :: t, hX =>
      simp only [List.map_cons, List.cons.injEq] at hX
      exact ⟨y :: x :: t, .swap _ _ _, by simp only [List.map_cons]; rw [← hX.1, ← hX.2.1, ← hX.2.2]⟩
    | [x], hX => simp at hX
    | [], hX => simp at hX
  | trans _ _ ih1 ih2 =>
    intro X hX
    obtain ⟨X1, p1, e1⟩ := ih2 X hX
    obtain ⟨X2, p2, e2⟩ := ih1 X1 e1
    exact ⟨X2, p2.trans p1, e2⟩
theorem Sub.map_inv {α β : Type} {f : α → β} {S : List β} {X : List α} (h : Sub S (X.map f)) : ∃ S', Sub S' X ∧ S = S'.map f := by
  obtain ⟨R, hR⟩ := h
  obtain ⟨X', hp, e⟩ := perm_map_inv f hR X rfl
  obtain ⟨S', R', rfl, e1, -⟩ := List.map_eq_append_iff.1 e.symm
  exact ⟨S', ⟨R', hp⟩, e1.symm⟩
theorem perm_flatMap {α β : Type} (f : α → List β) {l1 l2 : List α} (h : l1.Perm l2) : (l1.flatMap f).Perm (l2.flatMap f) := by
  induction h with
  | nil => exact .refl _
  | cons a _ ih => simp only [List.flatMap_cons]; exact ih.append_left _
  | swap a b l =>
    simp only [List.flatMap_cons, ← List.append_assoc]
    exact (List.perm_append_comm).append_right _
  | trans _ _ ih1 ih2 => exact ih1.trans ih2
theorem Sub.flat {α β : Type} {f : α → List β} {S X : List α} (h : Sub S X) : Sub (S.flatMap f) (X.flatMap f) := by
  obtain ⟨R, hR⟩ := h
  exact ⟨R.flatMap f, by rw [← List.flatMap_append]; exact perm_flatMap f hR⟩
theorem Sub.split {α : Type} [DecidableEq α] : ∀ {S R X Y : List α}, (S ++ R).Perm (X ++ Y) → ∃ S1 S2, Sub S1 X ∧ Sub S2 Y ∧ S.Perm (S1 ++ S2)
  | [], R, X, Y, _ => ⟨[], [], ⟨X, .refl _⟩, ⟨Y, .refl _⟩, .refl _⟩
  | s :: S, R, X, Y, h => by
    have hm : s ∈ X ++ Y := h.subset (by simp)
    rcases List.mem_append.1 hm with hx | hy
    · have px := List.perm_cons_erase hx
      have h2 : (S ++ R).Perm (X.erase s ++ Y) := by
        have : (s :: (S ++ R)).Perm (s :: (X.erase s ++ Y)) := (show (s :: (S ++ R)).Perm (X ++ Y) from h).trans (px.append_right Y)
        exact this.cons_inv
      obtain ⟨S1, S2, ⟨R1, h1⟩, q2, hp⟩ := Sub.split h2
      exact ⟨s :: S1, S2, ⟨R1, (h1.cons s).trans px.symm⟩, q2, hp.cons s⟩
    · have py := List.perm_cons_erase hy
      have h2 : (S ++ R).Perm (X ++ Y.erase s) := by
        have : (s :: (S ++ R)).Perm (s :: (X ++ Y.erase s)) := ((show (s :: (S ++ R)).Perm (X ++ Y) from h).trans (py.append_left X)).trans List.perm_middle
        exact this.cons_inv
      obtain ⟨S1, S2, q1, ⟨R2, h1⟩, hp⟩ := Sub.split h2
      exact ⟨S1, s :: S2, q1, ⟨R2, (h1.cons s).trans py.symm⟩, (hp.cons s).trans List.perm_middle.symm⟩

/-- How often a symbol stands in bundles. -/
def cnt (L : List (List Nat)) (s : Nat) : Nat := L.flatten.count s
theorem cnt_append (a b : List (List Nat)) (s : Nat) : cnt (a ++ b) s = cnt a s + cnt b s := by simp [cnt, List.count_append]
theorem cnt_perm {a b : List (List Nat)} (h : a.Perm b) (s : Nat) : cnt a s = cnt b s := by
  unfold cnt
  exact (h.flatten).count_eq s
theorem cnt_single (Q : List Nat) (s : Nat) : cnt (Q.map fun x => [x]) s = Q.count s := by
  unfold cnt
  induction Q with
  | nil => rfl
  | cons x t ih => simp only [List.map_cons, List.flatten_cons, List.singleton_append, List.count_cons, ih]
theorem cnt_pairs (P : List (List Nat × List Nat)) (s : Nat) : cnt (P.map fun p => p.1 ++ p.2) s = cnt (P.flatMap fun p => [p.1, p.2]) s := by
  unfold cnt
  induction P with
  | nil => rfl
  | cons x t ih =>
    simp only [List.map_cons, List.flatten_cons, List.count_append, List.flatMap_cons, List.cons_append, List.nil_append, ih]
    omega
theorem pairUp_sub {P L : List (List Nat)} (h : Sub P (pairUp L)) : ∃ P', Sub P' L ∧ P'.length = 2 * P.length ∧ ∀ s, cnt P' s = cnt P s := by
  rw [pairUp_prs] at h
  obtain ⟨S', hs, rfl⟩ := h.map_inv
  obtain ⟨r, hr⟩ := prs_flat L
  refine ⟨S'.flatMap fun p => [p.1, p.2], ?_, ?_, fun s => (cnt_pairs S' s).symm⟩
  · obtain ⟨R, hR⟩ := (hs.flat (f := fun p : List Nat × List Nat => [p.1, p.2]))
    refine ⟨R ++ r, ?_⟩
    rw [← List.append_assoc]
    have := hR.append_right r
    rwa [hr] at this
  · rw [List.length_map]
    clear hs hr h
    induction S' with
    | nil => rfl
    | cons x t ih => rw [List.flatMap_cons, List.length_append, ih]; simp only [List.length_cons, List.length_nil]; omega

/-- The bundles of a level. -/
def lvl (srt : List (List Nat) → List (List Nat)) (used : List Nat) : Nat → List (List Nat)
  | 0 => []
  | k + 1 => srt (pairUp (lvl srt used k) ++ used.map fun x => [x])
/-- The most that a symbol chosen c times weighs. -/
def g (k c : Nat) : Nat := 2 ^ (k + 1) - 2 ^ (k + 1 - c)
theorem g_step {k c q : Nat} (hc : c ≤ k) (hq : q ≤ 1) : g k c + q * 2 ^ (k + 1) ≤ g (k + 1) (c + q) := by
  unfold g
  have e1 : 2 ^ (k + 1 - c) ≤ 2 ^ (k + 1) := Nat.pow_le_pow_right (by decide) (by omega)
  have e2 : 2 ^ (k + 1 + 1) = 2 * 2 ^ (k + 1) := by rw [Nat.pow_succ]; omega
  rcases (show q = 0 ∨ q = 1 by omega) with rfl | rfl
  · have e3 : 2 ^ (k + 1 + 1 - c) = 2 * 2 ^ (k + 1 - c) := by rw [show k + 1 + 1 - c = (k + 1 - c) + 1 by omega, Nat.pow_succ]; omega
    rw [show c + 0 = c from rfl, e2, e3]
    omega
  · rw [show k + 1 + 1 - (c + 1) = k + 1 - c by omega, e2]
    omega
theorem sum_add {α : Type} (f h : α → Nat) : ∀ l : List α, (l.map fun x => f x + h x).sum = (l.map f).sum + (l.map h).sum
  | [] => rfl
  | x :: t => by simp only [List.map_cons, List.sum_cons]; rw [sum_add f h t]; omega
theorem sum_le {α : Type} (f h : α → Nat) : ∀ l : List α, (∀ x ∈ l, f x ≤ h x) → (l.map f).sum ≤ (l.map h).sum
  | [], _ => Nat.le_refl _
  | x :: t, hl => by
    simp only [List.map_cons, List.sum_cons]
    have := hl x (List.mem_cons_self ..)
    have := sum_le f h t fun y hy => hl y (List.mem_cons_of_mem _ hy)
    omega
theorem sum_mul {α : Type} (f : α → Nat) (c : Nat) : ∀ l : List α, (l.map fun x => f x * c).sum = (l.map f).sum * c
  | [] => by simp
  | x :: t => by simp only [List.map_cons, List.sum_cons]; rw [sum_mul f c t, Nat.add_mul]
theorem sum_const {α : Type} (c : Nat) : ∀ l : List α, (l.map fun _ => c).sum = l.length * c
  | [] => by simp
  | x :: t => by simp only [List.map_cons, List.sum_cons, List.length_cons]; rw [sum_const c t, Nat.add_mul]; omega
theorem sum_perm {α : Type} (f : α → Nat) {a b : List α} (h : a.Perm b) : (a.map f).sum = (b.map f).sum := by
  induction h with
  | nil => rfl
  | cons x _ ih => simp only [List.map_cons, List.sum_cons, ih]
  | swap x y l => simp only [List.map_cons, List.sum_cons]; omega
  | trans _ _ i1 i2 => exact i1.trans i2
theorem count_sum {Q used : List Nat} (h : Sub Q used) : Q.length ≤ (used.map fun s => Q.count s).sum := by
  obtain ⟨R, hR⟩ := h
  rw [← sum_perm _ hR, List.map_append, List.sum_append]
  have h1 : (Q.map fun _ => 1).sum ≤ (Q.map fun s => Q.count s).sum := sum_le _ _ _ fun x hx => List.count_pos_iff.2 hx
  rw [sum_const] at h1
  omega

theorem kraft_sub (srt : List (List Nat) → List (List Nat)) (hs : ∀ l, (srt l).Perm l) (used : List Nat) (hu : used.Nodup) :
    ∀ (k : Nat) (S : List (List Nat)), Sub S (lvl srt used k) → (∀ s, cnt S s ≤ k) ∧ (∀ s, s ∉ used → cnt S s = 0) ∧ S.length * 2 ^ k ≤ (used.map fun s => g k (cnt S s)).sum
  | 0, S, ⟨R, hR⟩ => by
    have : S ++ R = [] := by
      have := hR.length_eq
      rw [show (lvl srt used 0) = [] from rfl] at this
      exact List.eq_nil_of_length_eq_zero this
    obtain ⟨rfl, -⟩ := List.append_eq_nil_iff.1 this
    exact ⟨fun s => Nat.le_refl _, fun s _ => rfl, by simp⟩
  | k + 1, S, ⟨R, hR⟩ => by
    have h1 : (S ++ R).Perm (pairUp (lvl srt used k) ++ used.map fun x => [x]) := hR.trans (hs _)
    obtain ⟨S1, S2, q1, q2, hp⟩ := Sub.split h1
    obtain ⟨P', p1, p2, p3⟩ := pairUp_sub q1
    obtain ⟨Q, qs, rfl⟩ := q2.map_inv
    obtain ⟨i1, i2, i3⟩ := kraft_sub srt hs used hu k P' p1
    have hq : ∀ s, Q.count s ≤ 1 := fun s => by
      obtain ⟨R2, hR2⟩ := qs
      have e := hR2.count_eq s
      rw [List.count_append] at e
      have := List.nodup_iff_count.1 hu s
      omega
    have hc : ∀ s, cnt S s = cnt P' s + Q.count s := fun s => by rw [cnt_perm hp, cnt_append, cnt_single, p3]
    refine ⟨fun s => by rw [hc]; have := i1 s; have := hq s; omega, fun s hn => ?_, ?_⟩
    · rw [hc, i2 s hn]
      have : s ∉ Q := fun hm => hn (by obtain ⟨R2, hR2⟩ := qs; exact hR2.subset (List.mem_append_left _ hm))
      rw [List.count_eq_zero.2 this]
    · have hl := hp.length_eq
      rw [List.length_append, List.length_map] at hl
      have hcs := count_sum qs
      have e1 : (used.map fun s => g k (cnt P' s) + Q.count s * 2 ^ (k + 1)).sum ≤ (used.map fun s => g (k + 1) (cnt S s)).sum :=
        sum_le _ _ _ fun s _ => by rw [hc]; exact g_step (i1 s) (hq s)
      rw [sum_add, sum_mul] at e1
      have e2 : Q.length * 2 ^ (k + 1) ≤ (used.map fun s => Q.count s).sum * 2 ^ (k + 1) := Nat.mul_le_mul_right _ hcs
      have e3 : S.length * 2 ^ (k + 1) = P'.length * 2 ^ k + Q.length * 2 ^ (k + 1) := by
        rw [hl, p2, Nat.add_mul, Nat.pow_succ, Nat.mul_comm 2 S1.length, Nat.mul_assoc, Nat.mul_comm 2 (2 ^ k)]
      omega

/-- Kraft's inequality for the lengths that the first bundles of the last level give. -/
theorem kraft (srt : List (List Nat) → List (List Nat)) (hs : ∀ l, (srt l).Perm l) (used : List Nat) (hu : used.Nodup) (h2 : 2 ≤ used.length) (S : List (List Nat)) (h : Sub S (lvl srt used 15)) (hl : S.length + 2 = 2 * used.length) :
    (used.map fun s => 2 ^ (15 - cnt S s)).sum ≤ 2 ^ 15 ∧ (∀ s ∈ used, 1 ≤ cnt S s) ∧ (∀ s, cnt S s ≤ 15) ∧ ∀ s, s ∉ used → cnt S s = 0 := by
  obtain ⟨i1, i2, i3⟩ := kraft_sub srt hs used hu 15 S h
  have e1 : (used.map fun s => g 15 (cnt S s) + 2 * 2 ^ (15 - cnt S s)).sum = (used.map fun _ => 65536).sum := by
    congr 1
    refine List.map_congr_left fun s _ => ?_
    have := i1 s
    unfold g
    have e : 2 ^ (15 + 1 - cnt S s) = 2 * 2 ^ (15 - cnt S s) := by rw [show 15 + 1 - cnt S s = (15 - cnt S s) + 1 by omega, Nat.pow_succ]; omega
    have : 2 ^ (15 - cnt S s) ≤ 2 ^ 15 := Nat.pow_le_pow_right (by decide) (by omega)
    rw [e]
    omega
  rw [sum_add, sum_const] at e1
  have e2 : (used.map fun s => 2 * 2 ^ (15 - cnt S s)).sum = 2 * (used.map fun s => 2 ^ (15 - cnt S s)).sum := by
    have := sum_mul (fun s => 2 ^ (15 - cnt S s)) 2 used
    rw [Nat.mul_comm] at this
    rw [← this]
    congr 1
    exact List.map_congr_left fun s _ => Nat.mul_comm _ _
  have hk : (used.map fun s => 2 ^ (15 - cnt S s)).sum ≤ 2 ^ 15 := by
    rw [e2] at e1
    omega
  refine ⟨hk, fun s hm => ?_, i1, i2⟩
  rcases Nat.eq_zero_or_pos (cnt S s) with h0 | h0
  · exfalso
    have hp := List.perm_cons_erase hm
    rw [sum_perm _ hp, List.map_cons, List.sum_cons, h0] at hk
    have hlen := hp.length_eq
    rw [List.length_cons] at hlen
    have : ((used.erase s).map fun _ => 1).sum ≤ ((used.erase s).map fun s => 2 ^ (15 - cnt S s)).sum := sum_le _ _ _ fun x _ => Nat.one_le_two_pow
    rw [sum_const] at this
    omega
  · exact h0
/-- How many bundles a level has. -/
def lenOf (m : Nat) : Nat → Nat
  | 0 => 0
  | k + 1 => lenOf m k / 2 + m
theorem lvl_len (srt : List (List Nat) → List (List Nat)) (hs : ∀ l, (srt l).Perm l) (used : List Nat) : ∀ k, (lvl srt used k).length = lenOf used.length k
  | 0 => rfl
  | k + 1 => by
    rw [lvl, (hs _).length_eq, List.length_append, pairUp_len, List.length_map, lvl_len srt hs used k]
    rfl
theorem lenOf_all : ∀ m : Fin 273, 2 * m.val ≤ lenOf m.val 15 + 2 := by decide +kernel
theorem lenOf_15 (m : Nat) (h : m ≤ 272) : 2 * m ≤ lenOf m 15 + 2 := lenOf_all ⟨m, by omega⟩
end Go.Proofs.YtcojoigbcfaajaaDoor.Sq
