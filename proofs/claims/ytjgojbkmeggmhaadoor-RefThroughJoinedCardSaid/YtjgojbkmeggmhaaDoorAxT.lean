/- Plain: the sum of a change's numbers bounds what the writer of a join holds. -/
import Derived.Test.YtjgojbkmeggmhaaDoorAxC
namespace Go.Proofs.YtjgojbkmeggmhaaDoor.Ax

def sm : List Step → Int
  | [] => 0
  | (_, n) :: t => n + sm t
def Wr.sz (w : Wr) : Int := sm w.out + w.add + w.cut
theorem sm_append : ∀ (a b : List Step), sm (a ++ b) = sm a + sm b
  | [], b => by simp [sm]
  | (k, n) :: t, b => by
    have ih := sm_append t b
    simp only [List.cons_append, sm]
    omega
theorem sm_nonneg : ∀ {l : List Step}, (∀ s ∈ l, 0 ≤ s.2) → 0 ≤ sm l
  | [], _ => Int.le_refl _
  | (k, n) :: t, h => by
    have ih := @sm_nonneg t fun s hs => h s (List.mem_cons_of_mem _ hs)
    have h1 := h (k, n) (List.mem_cons_self ..)
    dsimp only at h1
    simp only [sm]
    omega
theorem le_sm : ∀ {l : List Step}, (∀ s ∈ l, 0 ≤ s.2) → ∀ s ∈ l, s.2 ≤ sm l
  | [], _, s, hs => by cases hs
  | (k, n) :: t, h, s, hs => by
    have h0 := @sm_nonneg t fun s hs => h s (List.mem_cons_of_mem _ hs)
    have h1 := h (k, n) (List.mem_cons_self ..)
    dsimp only at h1
    simp only [sm]
    rcases List.mem_cons.1 hs with rfl | hs
    · dsimp only; omega
    · have := @le_sm t (fun s hs => h s (List.mem_cons_of_mem _ hs)) s hs
      omega
theorem sz_flush {W : Wr} {M : Int} (h : Lim W M) : W.flush.sz = W.sz := by
  obtain ⟨h1, -, h3, -, -⟩ := h
  unfold Wr.sz Wr.flush
  dsimp only
  rw [sm_append, sm_append]
  unfold adds cuts
  split <;> split <;> simp only [sm] <;> omega
theorem sm_joinK (l : List Step) (n : Int) : sm (joinK l n) = sm l + n := by
  rcases list_end l with rfl | ⟨pre, j, m, rfl⟩
  · simp [joinK, sm]
  · rw [joinK_concat]
    split
    · rw [sm_append, sm_append]; simp only [sm]; omega
    · rw [sm_append]; simp only [sm]; omega
theorem sz_put {W : Wr} {M : Int} (h : Lim W M) (k n : Int) : (W.put k n).sz = W.sz + n := by
  have hf := sz_flush h
  unfold Wr.put
  split
  · omega
  split
  · unfold Wr.sz; dsimp only; omega
  split
  · unfold Wr.sz; dsimp only; omega
  · unfold Wr.sz at hf ⊢
    dsimp only
    rw [sm_joinK]
    have e1 : W.flush.add = 0 := rfl
    have e2 : W.flush.cut = 0 := rfl
    rw [e1, e2] at hf
    omega
theorem sz_puts : ∀ (l : List Step) {W : Wr} {M : Int}, Lim W M → (∀ s ∈ l, 0 ≤ s.2) → (puts W l).sz = W.sz + sm l
  | [], W, M, _, _ => by simp [puts, sm]
  | (k, n) :: t, W, M, h, hp => by
    have h1 := hp (k, n) (List.mem_cons_self ..)
    dsimp only at h1
    have ih := sz_puts t (h.put k h1) fun s hs => hp s (List.mem_cons_of_mem _ hs)
    rw [sz_put h] at ih
    show (puts (W.put k n) t).sz = _
    rw [ih]
    simp only [sm]
    omega
/-- What a writer holds is bounded by the sum of all that it was given. -/
theorem Lim.sharp {W : Wr} {M : Int} (h : Lim W M) : Lim W W.sz := by
  obtain ⟨h1, -, h3, -, h5⟩ := h
  have p : ∀ s ∈ W.out, (0 : Int) ≤ s.2 := fun s hs => by have := (h5 s hs).1; omega
  have h6 := sm_nonneg p
  refine ⟨h1, by unfold Wr.sz; omega, h3, by unfold Wr.sz; omega, fun s hs => ⟨(h5 s hs).1, ?_⟩⟩
  have := le_sm p s hs
  unfold Wr.sz
  omega
theorem dec_pos {l : List Step} {x : Int} (h : ∀ s ∈ l, 0 ≤ s.2) (hx : x ≤ lf l) : ∀ s ∈ dec l x, 0 ≤ s.2 := by
  intro s hs
  rcases l with _ | ⟨⟨k, n⟩, t⟩
  · cases hs
  · unfold dec at hs
    dsimp only at hs
    simp only [lf] at hx
    split at hs
    · exact h s (List.mem_cons_of_mem _ hs)
    · rcases List.mem_cons.1 hs with rfl | hs
      · dsimp only; omega
      · exact h s (List.mem_cons_of_mem _ hs)
theorem sm_dec {l : List Step} {x : Int} (h : l ≠ []) : sm (dec l x) = sm l - x := by
  rcases l with _ | ⟨⟨k, n⟩, t⟩
  · exact absurd rfl h
  · unfold dec
    dsimp only
    split
    · rename_i e; subst e; simp only [sm]; omega
    · simp only [sm]; omega
theorem dec_nil (x : Int) : dec [] x = [] := rfl
theorem lf_nonneg {l : List Step} (h : ∀ s ∈ l, 0 ≤ s.2) : 0 ≤ lf l := by
  rcases l with _ | ⟨⟨k, n⟩, t⟩
  · exact Int.le_refl _
  · exact h (k, n) (List.mem_cons_self ..)
theorem sm_mix (k j : Int) {x : Int} (h : 0 ≤ x) : sm (mix k j x) ≤ x ∧ ∀ s ∈ mix k j x, 0 ≤ s.2 := by
  unfold mix
  split
  · exact ⟨by simp [sm], fun s hs => by rw [List.mem_singleton.1 hs]; exact h⟩
  split
  · exact ⟨by simp [sm], fun s hs => by rw [List.mem_singleton.1 hs]; exact h⟩
  · exact ⟨by simpa [sm] using h, fun s hs => by cases hs⟩
theorem sm_tail {l : List Step} : sm l = lf l + sm l.tail := by
  rcases l with _ | ⟨⟨k, n⟩, t⟩
  · rfl
  · rfl
theorem tail_pos {l : List Step} (h : ∀ s ∈ l, 0 ≤ s.2) : ∀ s ∈ l.tail, 0 ≤ s.2 := fun s hs => h s (List.mem_of_mem_tail hs)
theorem sm_jn : ∀ (f : Nat) {a b : List Step}, (∀ s ∈ a, 0 ≤ s.2) → (∀ s ∈ b, 0 ≤ s.2) → sm (jn f a b) ≤ sm a + sm b ∧ ∀ s ∈ jn f a b, 0 ≤ s.2
  | 0, a, b, ha, hb => by
    have := sm_nonneg ha
    have := sm_nonneg hb
    exact ⟨by simp only [jn, sm]; omega, fun s hs => by cases hs⟩
  | f + 1, a, b, ha, hb => by
    have na := sm_nonneg ha
    have nb := sm_nonneg hb
    have la := lf_nonneg ha
    have lb := lf_nonneg hb
    rw [jn]
    split
    · exact ⟨by simp only [sm]; omega, fun s hs => by cases hs⟩
    split
    · obtain ⟨i1, i2⟩ := sm_jn f (tail_pos ha) hb
      refine ⟨by rw [@sm_tail a]; simp only [sm]; omega, fun s hs => ?_⟩
      rcases List.mem_cons.1 hs with rfl | hs
      · exact la
      · exact i2 s hs
    split
    · obtain ⟨i1, i2⟩ := sm_jn f ha (tail_pos hb)
      refine ⟨by rw [@sm_tail b]; simp only [sm]; omega, fun s hs => ?_⟩
      rcases List.mem_cons.1 hs with rfl | hs
      · exact lb
      · exact i2 s hs
    · have hx : 0 ≤ min (lf a) (lf b) := by omega
      obtain ⟨i1, i2⟩ := sm_jn f (dec_pos ha (show min (lf a) (lf b) ≤ lf a by omega)) (dec_pos hb (show min (lf a) (lf b) ≤ lf b by omega))
      obtain ⟨m1, m2⟩ := sm_mix (kd a) (kd b) hx
      refine ⟨?_, fun s hs => ?_⟩
      · rw [sm_append]
        by_cases ea : a = []
        · have e0 : min (lf a) (lf b) = 0 := by rw [ea] at hx ⊢; have : lf ([] : List Step) = 0 := rfl; omega
          by_cases eb : b = []
          · have : dec a (min (lf a) (lf b)) = a := by rw [ea]; rfl
            have : dec b (min (lf a) (lf b)) = b := by rw [eb]; rfl
            simp_all
          · have e1 : dec a (min (lf a) (lf b)) = a := by rw [ea]; rfl
            have e2 := @sm_dec b (min (lf a) (lf b)) eb
            rw [e1] at i1
            rw [e2] at i1
            rw [e1]
            omega
        · have e1 := @sm_dec a (min (lf a) (lf b)) ea
          rw [e1] at i1
          by_cases eb : b = []
          · have e2 : dec b (min (lf a) (lf b)) = b := by rw [eb]; rfl
            rw [e2] at i1
            rw [e2]
            omega
          · have e2 := @sm_dec b (min (lf a) (lf b)) eb
            rw [e2] at i1
            omega
      · rcases List.mem_append.1 hs with hs | hs
        · exact m2 s hs
        · exact i2 s hs
theorem sm_check : ∀ {l : List Step}, (∀ s ∈ l, okS s) → sm l ≤ bef l + aft l
  | [], _ => by simp [sm, bef, aft]
  | (k, n) :: t, h => by
    have ih := @sm_check t fun s hs => h s (List.mem_cons_of_mem _ hs)
    have h2 := (h (k, n) (List.mem_cons_self ..)).2.2.1
    dsimp only at h2
    simp only [sm, bef, aft]
    by_cases hk : k = 1
    · subst hk; simp; omega
    · rw [if_pos hk]; split <;> omega
theorem len_sum : ∀ {l : List Step}, (∀ s ∈ l, okS s) → (l.length : Int) ≤ bef l + aft l
  | [], _ => by simp [bef, aft]
  | (k, n) :: t, h => by
    have ih := @len_sum t fun s hs => h s (List.mem_cons_of_mem _ hs)
    have h2 := (h (k, n) (List.mem_cons_self ..)).2.2.1
    dsimp only at h2
    simp only [List.length_cons, bef, aft]
    by_cases hk : k = 1
    · subst hk; simp; omega
    · rw [if_pos hk]; split <;> simp <;> omega
theorem okS_pos {l : List Step} (h : ∀ s ∈ l, okS s) : ∀ s ∈ l, 0 ≤ s.2 := fun s hs => by have := (h s hs).2.2.1; omega
/-- During a join: the writer's numbers stay small. -/
theorem Lim.join {W : Wr} {M : Int} {f g : Nat} {x y la lb : List Step} (h : Lim W M) (hx : ∀ s ∈ x, 0 ≤ s.2) (hy : ∀ s ∈ y, 0 ≤ s.2) (hq : puts W (jn f x y) = puts Wr.zero (jn g la lb))
    (ha : ∀ s ∈ la, okS s) (hb : ∀ s ∈ lb, okS s) (h1 : bef la ≤ 2147483647) (h2 : aft la ≤ 2147483647) (h3 : bef lb ≤ 2147483647) (h4 : aft lb ≤ 2147483647) : Lim W 8589934588 := by
  have e1 := sz_puts (jn f x y) h (sm_jn f hx hy).2
  have z0 : Lim Wr.zero 0 := ⟨Int.le_refl _, Int.le_refl _, Int.le_refl _, Int.le_refl _, fun s hs => by cases hs⟩
  have e2 := sz_puts (jn g la lb) z0 (sm_jn g (okS_pos ha) (okS_pos hb)).2
  have e3 := (sm_jn g (okS_pos ha) (okS_pos hb)).1
  have e4 := sm_check ha
  have e5 := sm_check hb
  have e6 := sm_nonneg (sm_jn f hx hy).2
  rw [hq] at e1
  have e7 : Wr.zero.sz = 0 := rfl
  have hs := h.sharp
  have hw : W.sz ≤ 8589934588 := by omega
  exact ⟨hs.1, by have := hs.2.1; omega, hs.2.2.1, by have := hs.2.2.2.1; omega, fun s hs' => by have := hs.2.2.2.2 s hs'; omega⟩
theorem sm_undo (l : List Step) : sm (undo l) = sm l := by
  unfold undo
  induction l with
  | nil => rfl
  | cons s t ih => obtain ⟨k, n⟩ := s; simp only [List.map_cons, sm]; rw [ih]
/-- During an undo: the writer's numbers stay small. -/
theorem Lim.undone {W : Wr} {M : Int} {x l : List Step} (h : Lim W M) (hx : ∀ s ∈ x, 0 ≤ s.2) (hq : puts W (undo x) = puts Wr.zero (undo l)) (hl : ∀ s ∈ l, okS s) (h1 : bef l ≤ 2147483647) (h2 : aft l ≤ 2147483647) : Lim W 4294967294 := by
  have up : ∀ {y : List Step}, (∀ s ∈ y, 0 ≤ s.2) → ∀ s ∈ undo y, 0 ≤ s.2 := fun hy s hs => by
    unfold undo at hs
    obtain ⟨q, hq', rfl⟩ := List.mem_map.1 hs
    exact hy q hq'
  have e1 := sz_puts (undo x) h (up hx)
  have z0 : Lim Wr.zero 0 := ⟨Int.le_refl _, Int.le_refl _, Int.le_refl _, Int.le_refl _, fun s hs => by cases hs⟩
  have e2 := sz_puts (undo l) z0 (up (okS_pos hl))
  have e3 := sm_check hl
  have e4 := sm_nonneg hx
  rw [sm_undo] at e1 e2
  rw [hq] at e1
  have e7 : Wr.zero.sz = 0 := rfl
  have hs := h.sharp
  have hw : W.sz ≤ 4294967294 := by omega
  exact ⟨hs.1, by have := hs.2.1; omega, hs.2.2.1, by have := hs.2.2.2.1; omega, fun s hs' => by have := hs.2.2.2.2 s hs'; omega⟩
end Go.Proofs.YtjgojbkmeggmhaaDoor.Ax
