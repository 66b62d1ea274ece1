/- Changes of rows: joins, undone changes, what remains of a range (plain laws). -/
import Derived.Test.YtjgojbkmeggmhaaDoorAxP
namespace Go.Proofs.YtjgojbkmeggmhaaDoor.Ax

theorem fin_up (r : Res) (s : Int) : (r.up s).fin = r.fin.map (· + s) := by
  cases r <;> simp [Res.up, Res.fin, Int.add_assoc]
theorem P_nil (p : Int) : P [] p = some p := by simp [P, R_nil, Res.fin]
theorem P_keep (n : Int) (t : List Step) (p : Int) : P ((0, n) :: t) p = if p < n then some p else (P t (p - n)).map (· + n) := by
  unfold P
  rw [R_keep]
  split
  · rfl
  · rw [fin_up]
theorem P_add (n : Int) (t : List Step) (p : Int) : P ((1, n) :: t) p = (P t p).map (· + n) := by
  unfold P
  rw [R_add, fin_up]
theorem P_cut (n : Int) (t : List Step) (p : Int) : P ((2, n) :: t) p = if p < n then none else P t (p - n) := by
  unfold P
  rw [R_cut]
  split <;> rfl
theorem P_same {x y : List Step} (h : Same x y) {p : Int} (hp : 0 ≤ p) : P x p = P y p := by unfold P; rw [h p hp]
theorem okS_cases {s : Step} (h : okS s) : (s.1 = 0 ∨ s.1 = 1 ∨ s.1 = 2) ∧ 1 ≤ s.2 := ⟨by have := h.1; have := h.2.1; omega, h.2.2.1⟩
theorem P_nonneg : ∀ {l : List Step}, (∀ s ∈ l, okS s) → ∀ {p y : Int}, 0 ≤ p → P l p = some y → 0 ≤ y
  | [], _, p, y, hp, h => by rw [P_nil] at h; cases h; exact hp
  | (k, n) :: t, ho, p, y, hp, h => by
    have ih := @P_nonneg t fun s hs => ho s (List.mem_cons_of_mem _ hs)
    obtain ⟨hk, hn⟩ := okS_cases (ho (k, n) (List.mem_cons_self ..))
    dsimp only at hk hn
    rcases hk with rfl | rfl | rfl
    · rw [P_keep] at h
      split at h
      · cases h; exact hp
      · obtain ⟨z, hz, rfl⟩ := Option.map_eq_some_iff.1 h
        have := ih (by omega) hz
        omega
    · rw [P_add] at h
      obtain ⟨z, hz, rfl⟩ := Option.map_eq_some_iff.1 h
      have := ih hp hz
      omega
    · rw [P_cut] at h
      split at h
      · cases h
      · exact ih (by omega) h
theorem P_mono : ∀ {l : List Step}, (∀ s ∈ l, okS s) → ∀ {p q y z : Int}, 0 ≤ p → p < q → P l p = some y → P l q = some z → y < z
  | [], _, p, q, y, z, _, hpq, h1, h2 => by rw [P_nil] at h1 h2; cases h1; cases h2; exact hpq
  | (k, n) :: t, ho, p, q, y, z, hp, hpq, h1, h2 => by
    have ho' : ∀ s ∈ t, okS s := fun s hs => ho s (List.mem_cons_of_mem _ hs)
    have ih := @P_mono t ho'
    obtain ⟨hk, hn⟩ := okS_cases (ho (k, n) (List.mem_cons_self ..))
    dsimp only at hk hn
    rcases hk with rfl | rfl | rfl
    · rw [P_keep] at h1 h2
      by_cases a1 : p < n
      · rw [if_pos a1] at h1
        cases h1
        by_cases a2 : q < n
        · rw [if_pos a2] at h2; cases h2; exact hpq
        · rw [if_neg a2] at h2
          obtain ⟨c, hc, rfl⟩ := Option.map_eq_some_iff.1 h2
          have := P_nonneg ho' (p := q - n) (by omega) hc
          omega
      · rw [if_neg a1] at h1
        rw [if_neg (by omega)] at h2
        obtain ⟨c, hc, rfl⟩ := Option.map_eq_some_iff.1 h1
        obtain ⟨d, hd, rfl⟩ := Option.map_eq_some_iff.1 h2
        have := ih (p := p - n) (q := q - n) (by omega) (by omega) hc hd
        omega
    · rw [P_add] at h1 h2
      obtain ⟨c, hc, rfl⟩ := Option.map_eq_some_iff.1 h1
      obtain ⟨d, hd, rfl⟩ := Option.map_eq_some_iff.1 h2
      have := ih hp hpq hc hd
      omega
    · rw [P_cut] at h1 h2
      split at h1
      · cases h1
      · rw [if_neg (by omega)] at h2
        exact ih (p := p - n) (q := q - n) (by omega) (by omega) h1 h2
theorem P_mono' {l : List Step} (ho : ∀ s ∈ l, okS s) {p q y z : Int} (hq : 0 ≤ q) (h1 : P l p = some y) (h2 : P l q = some z) (h : y < z) : p < q := by
  rcases Int.lt_trichotomy p q with h3 | h3 | h3
  · exact h3
  · subst h3; rw [h1] at h2; cases h2; omega
  · have := P_mono ho hq h3 h2 h1; omega
/-- Without added rows every row comes from one. -/
theorem P_onto : ∀ {l : List Step}, (∀ s ∈ l, okS s) → (∀ s ∈ l, s.1 ≠ 1) → ∀ {y : Int}, 0 ≤ y → ∃ p, 0 ≤ p ∧ P l p = some y
  | [], _, _, y, hy => ⟨y, hy, P_nil y⟩
  | (k, n) :: t, ho, hn1, y, hy => by
    have ih := @P_onto t (fun s hs => ho s (List.mem_cons_of_mem _ hs)) (fun s hs => hn1 s (List.mem_cons_of_mem _ hs))
    obtain ⟨hk, hn⟩ := okS_cases (ho (k, n) (List.mem_cons_self ..))
    have h1 := hn1 (k, n) (List.mem_cons_self ..)
    dsimp only at hk hn h1
    rcases hk with rfl | rfl | rfl
    · by_cases a1 : y < n
      · exact ⟨y, hy, by rw [P_keep, if_pos a1]⟩
      · obtain ⟨p, h2, h3⟩ := ih (y := y - n) (by omega)
        refine ⟨p + n, by omega, ?_⟩
        rw [P_keep, if_neg (by omega), Int.add_sub_cancel, h3]
        simp
    · exact absurd rfl h1
    · obtain ⟨p, h2, h3⟩ := ih (y := y) hy
      refine ⟨p + n, by omega, ?_⟩
      rw [P_cut, if_neg (by omega), Int.add_sub_cancel, h3]
/-- Without removed rows every row goes somewhere. -/
theorem P_total : ∀ {l : List Step}, (∀ s ∈ l, okS s) → (∀ s ∈ l, s.1 ≠ 2) → ∀ {p : Int}, 0 ≤ p → ∃ y, P l p = some y
  | [], _, _, p, hp => ⟨p, P_nil p⟩
  | (k, n) :: t, ho, hn1, p, hp => by
    have ih := @P_total t (fun s hs => ho s (List.mem_cons_of_mem _ hs)) (fun s hs => hn1 s (List.mem_cons_of_mem _ hs))
    obtain ⟨hk, hn⟩ := okS_cases (ho (k, n) (List.mem_cons_self ..))
    have h1 := hn1 (k, n) (List.mem_cons_self ..)
    dsimp only at hk hn h1
    rcases hk with rfl | rfl | rfl
    · by_cases a1 : p < n
      · exact ⟨p, by rw [P_keep, if_pos a1]⟩
      · obtain ⟨y, h3⟩ := ih (p := p - n) (by omega)
        exact ⟨y + n, by rw [P_keep, if_neg a1, h3]; rfl⟩
    · obtain ⟨y, h3⟩ := ih (p := p) hp
      exact ⟨y + n, by rw [P_add, h3]; rfl⟩
    · exact absurd rfl h1

/-! The undone change. -/
def und (k : Int) : Int := if k = 1 then 2 else if k = 2 then 1 else 0
def undo (l : List Step) : List Step := l.map fun s => (und s.1, s.2)
theorem P_undo : ∀ {l : List Step}, (∀ s ∈ l, okS s) → ∀ {p y : Int}, 0 ≤ p → P l p = some y → P (undo l) y = some p
  | [], _, p, y, _, h => by rw [P_nil] at h; cases h; exact P_nil _
  | (k, n) :: t, ho, p, y, hp, h => by
    have ho' : ∀ s ∈ t, okS s := fun s hs => ho s (List.mem_cons_of_mem _ hs)
    have ih := @P_undo t ho'
    obtain ⟨hk, hn⟩ := okS_cases (ho (k, n) (List.mem_cons_self ..))
    dsimp only at hk hn
    rcases hk with rfl | rfl | rfl
    · show P ((0, n) :: undo t) y = _
      rw [P_keep] at h ⊢
      split at h
      · cases h; rw [if_pos (by assumption)]
      · obtain ⟨z, hz, rfl⟩ := Option.map_eq_some_iff.1 h
        have := P_nonneg ho' (p := p - n) (by omega) hz
        rw [if_neg (by omega), Int.add_sub_cancel, ih (by omega) hz]
        simp
    · show P ((2, n) :: undo t) y = _
      rw [P_add] at h
      obtain ⟨z, hz, rfl⟩ := Option.map_eq_some_iff.1 h
      have := P_nonneg ho' hp hz
      rw [P_cut, if_neg (by omega), Int.add_sub_cancel, ih hp hz]
    · show P ((1, n) :: undo t) y = _
      rw [P_cut] at h
      split at h
      · cases h
      · rw [P_add, ih (by omega) h]
        simp
theorem undo_ok {l : List Step} (h : ∀ s ∈ l, okS s) : ∀ s ∈ undo l, okS s := fun s hs => by
  obtain ⟨x, hx, rfl⟩ := List.mem_map.1 hs
  obtain ⟨h1, h2, h3, h4⟩ := h x hx
  refine ⟨?_, ?_, h3, h4⟩ <;> (dsimp only; unfold und; split <;> first | omega | (split <;> omega))

/-! The join. -/
def kd : List Step → Int
  | [] => -1
  | (k, _) :: _ => k
def lf : List Step → Int
  | [] => 0
  | (_, n) :: _ => n
def dec (l : List Step) (m : Int) : List Step := match l with
  | [] => []
  | (k, n) :: t => if n = m then t else (k, n - m) :: t
def mix (ka kb m : Int) : List Step := if ka = 0 then [(kb, m)] else if kb = 0 then [(1, m)] else []
def jn : Nat → List Step → List Step → List Step
  | 0, _, _ => []
  | f + 1, a, b =>
    if a = [] ∧ b = [] then []
    else if kd a = 2 then (2, lf a) :: jn f a.tail b
    else if kd b = 1 then (1, lf b) :: jn f a b.tail
    else mix (kd a) (kd b) (min (lf a) (lf b)) ++ jn f (dec a (min (lf a) (lf b))) (dec b (min (lf a) (lf b)))
theorem dec_same {k n m : Int} (t : List Step) (hk : k = 0 ∨ k = 1 ∨ k = 2) (hm : 1 ≤ m) (hmn : m ≤ n) : Same ((k, n) :: t) ((k, m) :: dec ((k, n) :: t) m) := by
  unfold dec
  dsimp only
  split
  · rename_i h; subst h; exact same_refl _
  · rcases hk with rfl | rfl | rfl
    · have := (keep_keep (a := m) (b := n - m) (by omega) (by omega)).post t
      rw [show m + (n - m) = n by omega] at this
      exact this.symm
    · have := (add_add m (n - m)).post t
      rw [show m + (n - m) = n by omega] at this
      exact this.symm
    · have := (cut_cut (a := m) (b := n - m) (by omega) (by omega)).post t
      rw [show m + (n - m) = n by omega] at this
      exact this.symm
theorem dec_ok {l : List Step} (h : ∀ s ∈ l, okS s) {m : Int} (hm : 1 ≤ m) (hmn : m ≤ lf l) : ∀ s ∈ dec l m, okS s := by
  cases l with
  | nil => exact h
  | cons s t =>
    obtain ⟨k, n⟩ := s
    unfold dec
    dsimp only
    split
    · exact fun s hs => h s (List.mem_cons_of_mem _ hs)
    · rename_i hne
      intro s hs
      rcases List.mem_cons.1 hs with rfl | hs
      · obtain ⟨h1, h2, h3, h4⟩ := h (k, n) (List.mem_cons_self ..)
        dsimp only [lf] at hmn h1 h2 h3 h4
        exact ⟨h1, h2, by dsimp only; omega, by dsimp only; omega⟩
      · exact h s (List.mem_cons_of_mem _ hs)
theorem P_join : ∀ (f : Nat) (a b : List Step), (∀ s ∈ a, okS s) → (∀ s ∈ b, okS s) → aft a = bef b → a.length + b.length < f → ∀ p, 0 ≤ p → P (jn f a b) p = (P a p).bind (P b)
  | 0, _, _, _, _, _, hf, _, _ => by omega
  | f + 1, a, b, ha, hb, hab, hf, p, hp => by
    rw [jn]
    by_cases h0 : a = [] ∧ b = []
    · rw [if_pos h0]
      obtain ⟨rfl, rfl⟩ := h0
      rw [P_nil]
      exact (P_nil p).symm
    rw [if_neg h0]
    by_cases h2 : kd a = 2
    · rw [if_pos h2]
      match a, h2, ha, hab, hf with
      | (k, n) :: t, h2, ha, hab, hf =>
        obtain rfl : k = 2 := h2
        have ih := P_join f t b (fun s hs => ha s (List.mem_cons_of_mem _ hs)) hb (by simpa [aft] using hab) (by simp at hf; omega)
        show P ((2, n) :: jn f t b) p = _
        rw [P_cut, P_cut]
        split
        · rfl
        · exact ih _ (by omega)
    rw [if_neg h2]
    by_cases h1 : kd b = 1
    · rw [if_pos h1]
      match b, h1, hb, hab, hf with
      | (k, n) :: t, h1, hb, hab, hf =>
        obtain rfl : k = 1 := h1
        have ih := P_join f a t ha (fun s hs => hb s (List.mem_cons_of_mem _ hs)) (by simpa [bef] using hab) (by simp at hf; omega)
        show P ((1, n) :: jn f a t) p = _
        rw [P_add, ih p hp]
        cases P a p with
        | none => rfl
        | some y => simp only [Option.bind_some, P_add]
    rw [if_neg h1]
    match a, b, h0, h2, h1, ha, hb, hab, hf with
    | [], [], h0, _, _, _, _, _, _ => exact absurd ⟨rfl, rfl⟩ h0
    | [], (k, n) :: t, _, _, h1, _, hb, hab, _ =>
      exfalso
      obtain ⟨hk, hn⟩ := okS_cases (hb (k, n) (List.mem_cons_self ..))
      have := bef_nonneg (l := t) fun s hs => hb s (List.mem_cons_of_mem _ hs)
      dsimp only [kd, aft, bef] at h1 hab hn
      rw [if_pos h1] at hab
      omega
    | (k, n) :: t, [], _, h2, _, ha, _, hab, _ =>
      exfalso
      obtain ⟨hk, hn⟩ := okS_cases (ha (k, n) (List.mem_cons_self ..))
      have := aft_nonneg (l := t) fun s hs => ha s (List.mem_cons_of_mem _ hs)
      dsimp only [kd, aft, bef] at h2 hab hn
      rw [if_pos h2] at hab
      omega
    | (k, n) :: t, (j, m) :: u, _, h2, h1, ha, hb, hab, hf =>
      obtain ⟨hk, hn⟩ := okS_cases (ha (k, n) (List.mem_cons_self ..))
      obtain ⟨hj, hm⟩ := okS_cases (hb (j, m) (List.mem_cons_self ..))
      dsimp only [kd, lf] at h2 h1 hk hn hj hm ⊢
      obtain ⟨x, hx⟩ : ∃ x, x = min n m := ⟨_, rfl⟩
      rw [← hx]
      have hx1 : 1 ≤ x := by omega
      have hxn : x ≤ n := by omega
      have hxm : x ≤ m := by omega
      have sa := dec_same t hk hx1 hxn
      have sb := dec_same u hj hx1 hxm
      have oa := dec_ok ha hx1 (show x ≤ lf ((k, n) :: t) from hxn)
      have ob := dec_ok hb hx1 (show x ≤ lf ((j, m) :: u) from hxm)
      have hab2 : aft (dec ((k, n) :: t) x) = bef (dec ((j, m) :: u) x) := by
        dsimp only [aft, bef] at hab
        rw [if_pos h2, if_pos h1] at hab
        unfold dec
        dsimp only
        split <;> split <;> (try simp only [aft, bef, if_pos h2, if_pos h1]) <;> omega
      have hf2 : (dec ((k, n) :: t) x).length + (dec ((j, m) :: u) x).length < f := by
        simp only [List.length_cons] at hf
        unfold dec
        dsimp only
        have : n = x ∨ m = x := by omega
        split <;> split <;> (try simp only [List.length_cons]) <;> omega
      have ih := P_join f _ _ oa ob hab2 hf2
      rw [P_same sa hp]
      generalize dec ((k, n) :: t) x = da at *
      generalize dec ((j, m) :: u) x = db at *
      have hb1 : ∀ {y}, 0 ≤ y → P ((j, m) :: u) y = P ((j, x) :: db) y := fun hy => P_same sb hy
      have hkk : k = 0 ∨ k = 1 := by omega
      have hjj : j = 0 ∨ j = 2 := by omega
      rcases hkk with rfl | rfl
      · rcases hjj with rfl | rfl
        · show P ((0, x) :: jn f da db) p = _
          rw [P_keep, P_keep]
          by_cases hpx : p < x
          · rw [if_pos hpx, if_pos hpx, Option.bind_some, hb1 hp, P_keep, if_pos hpx]
          · rw [if_neg hpx, if_neg hpx, ih _ (by omega)]
            cases hc : P da (p - x) with
            | none => rfl
            | some y =>
              have := P_nonneg oa (p := p - x) (by omega) hc
              simp only [Option.bind_some, Option.map_some]
              rw [hb1 (by omega), P_keep, if_neg (by omega), Int.add_sub_cancel]
        · show P ((2, x) :: jn f da db) p = _
          rw [P_cut, P_keep]
          by_cases hpx : p < x
          · rw [if_pos hpx, if_pos hpx, Option.bind_some, hb1 hp, P_cut, if_pos hpx]
          · rw [if_neg hpx, if_neg hpx, ih _ (by omega)]
            cases hc : P da (p - x) with
            | none => rfl
            | some y =>
              have := P_nonneg oa (p := p - x) (by omega) hc
              simp only [Option.bind_some, Option.map_some]
              rw [hb1 (by omega), P_cut, if_neg (by omega), Int.add_sub_cancel]
      · rcases hjj with rfl | rfl
        · show P ((1, x) :: jn f da db) p = _
          rw [P_add, P_add, ih _ hp]
          cases hc : P da p with
          | none => rfl
          | some y =>
            have := P_nonneg oa hp hc
            simp only [Option.bind_some, Option.map_some]
            rw [hb1 (by omega), P_keep, if_neg (by omega), Int.add_sub_cancel]
        · show P (jn f da db) p = _
          rw [P_add, ih _ hp]
          cases hc : P da p with
          | none => rfl
          | some y =>
            have := P_nonneg oa hp hc
            simp only [Option.bind_some, Option.map_some]
            rw [hb1 (by omega), P_cut, if_neg (by omega), Int.add_sub_cancel]
theorem jn_ok : ∀ (f : Nat) (a b : List Step), (∀ s ∈ a, okS s) → (∀ s ∈ b, okS s) → aft a = bef b → ∀ s ∈ jn f a b, (0 ≤ s.1 ∧ s.1 ≤ 2) ∧ 0 ≤ s.2
  | 0, _, _, _, _, _ => fun s hs => by cases hs
  | f + 1, a, b, ha, hb, hab => by
    rw [jn]
    by_cases h0 : a = [] ∧ b = []
    · rw [if_pos h0]; intro s hs; cases hs
    rw [if_neg h0]
    by_cases h2 : kd a = 2
    · rw [if_pos h2]
      match a, h2, ha, hab with
      | (k, n) :: t, h2, ha, hab =>
        obtain rfl : k = 2 := h2
        intro s hs
        rcases List.mem_cons.1 hs with rfl | hs
        · have := (ha (2, n) (List.mem_cons_self ..)).2.2.1
          dsimp only at this
          exact ⟨⟨(by decide : (0 : Int) ≤ 2), (by decide : (2 : Int) ≤ 2)⟩, (by omega : 0 ≤ n)⟩
        · exact jn_ok f t b (fun s hs => ha s (List.mem_cons_of_mem _ hs)) hb (by simpa [aft] using hab) s hs
    rw [if_neg h2]
    by_cases h1 : kd b = 1
    · rw [if_pos h1]
      match b, h1, hb, hab with
      | (k, n) :: t, h1, hb, hab =>
        obtain rfl : k = 1 := h1
        intro s hs
        rcases List.mem_cons.1 hs with rfl | hs
        · have := (hb (1, n) (List.mem_cons_self ..)).2.2.1
          dsimp only at this
          exact ⟨⟨(by decide : (0 : Int) ≤ 1), (by decide : (1 : Int) ≤ 2)⟩, (by omega : 0 ≤ n)⟩
        · exact jn_ok f a t ha (fun s hs => hb s (List.mem_cons_of_mem _ hs)) (by simpa [bef] using hab) s hs
    rw [if_neg h1]
    match a, b, h0, h2, h1, ha, hb, hab with
    | [], [], h0, _, _, _, _, _ => exact absurd ⟨rfl, rfl⟩ h0
    | [], (k, n) :: t, _, _, h1, _, hb, hab =>
      exfalso
      obtain ⟨hk, hn⟩ := okS_cases (hb (k, n) (List.mem_cons_self ..))
      have := bef_nonneg (l := t) fun s hs => hb s (List.mem_cons_of_mem _ hs)
      dsimp only [kd, aft, bef] at h1 hab hn
      rw [if_pos h1] at hab
      omega
    | (k, n) :: t, [], _, h2, _, ha, _, hab =>
      exfalso
      obtain ⟨hk, hn⟩ := okS_cases (ha (k, n) (List.mem_cons_self ..))
      have := aft_nonneg (l := t) fun s hs => ha s (List.mem_cons_of_mem _ hs)
      dsimp only [kd, aft, bef] at h2 hab hn
      rw [if_pos h2] at hab
      omega
    | (k, n) :: t, (j, m) :: u, _, h2, h1, ha, hb, hab =>
      obtain ⟨hk, hn⟩ := okS_cases (ha (k, n) (List.mem_cons_self ..))
      obtain ⟨hj, hm⟩ := okS_cases (hb (j, m) (List.mem_cons_self ..))
      dsimp only [kd, lf] at h2 h1 hk hn hj hm ⊢
      obtain ⟨x, hx⟩ : ∃ x, x = min n m := ⟨_, rfl⟩
      rw [← hx]
      have hx1 : 1 ≤ x := by omega
      have hxn : x ≤ n := by omega
      have hxm : x ≤ m := by omega
      have oa := dec_ok ha hx1 (show x ≤ lf ((k, n) :: t) from hxn)
      have ob := dec_ok hb hx1 (show x ≤ lf ((j, m) :: u) from hxm)
      have hab2 : aft (dec ((k, n) :: t) x) = bef (dec ((j, m) :: u) x) := by
        dsimp only [aft, bef] at hab
        rw [if_pos h2, if_pos h1] at hab
        unfold dec
        dsimp only
        split <;> split <;> (try simp only [aft, bef, if_pos h2, if_pos h1]) <;> omega
      intro s hs
      rcases List.mem_append.1 hs with hs | hs
      · unfold mix at hs
        split at hs
        · rw [List.mem_singleton.1 hs]
          exact ⟨⟨(by omega : 0 ≤ j), (by omega : j ≤ 2)⟩, (by omega : 0 ≤ x)⟩
        · split at hs
          · rw [List.mem_singleton.1 hs]
            exact ⟨⟨(by decide : (0 : Int) ≤ 1), (by decide : (1 : Int) ≤ 2)⟩, (by omega : 0 ≤ x)⟩
          · cases hs
      · exact jn_ok f _ _ oa ob hab2 s hs
end Go.Proofs.YtjgojbkmeggmhaaDoor.Ax
