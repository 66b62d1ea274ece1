/- Plain functions of package cellref, with no program in sight. -/
import Derived.Lib.Strings
namespace Go.Proofs.YtjgojbkmeggmhaaDoor.Cr

def letterI (n : Int) : Bool := (decide (65 ≤ n) && decide (n ≤ 90)) || (decide (97 ≤ n) && decide (n ≤ 122))
def digitI (n : Int) : Bool := decide (48 ≤ n) && decide (n ≤ 57)
def permitted (n : Int) : Bool := decide (0 ≤ n) && decide (n < 1073741824)

/-- The letters of the number n, from 1 on; 0 has none. -/
def lt (n : Nat) : List UInt8 :=
  if _h : n = 0 then [] else lt ((n - 1) / 26) ++ [UInt8.ofNat (65 + (n - 1) % 26)]
termination_by n
decreasing_by omega

theorem lt_zero : lt 0 = [] := by rw [lt]; simp
theorem lt_pos {n : Nat} (h : 0 < n) : lt n = lt ((n - 1) / 26) ++ [UInt8.ofNat (65 + (n - 1) % 26)] := by
  rw [lt, dif_neg (by omega)]

/-- The value of letters so far. -/
def colv (l : List UInt8) : Nat := l.foldl (fun n c => 26 * n + (c.toNat &&& 31)) 0

theorem colv_snoc (l : List UInt8) (c : UInt8) : colv (l ++ [c]) = 26 * colv l + (c.toNat &&& 31) := by
  simp [colv, List.foldl_append]

theorem and31 (k : Nat) (h : k < 26) : ((UInt8.ofNat (65 + k)).toNat &&& 31) = k + 1 := by
  have : ∀ k : Fin 26, ((UInt8.ofNat (65 + k.val)).toNat &&& 31) = k.val + 1 := by decide
  exact this ⟨k, h⟩

theorem colv_lt (n : Nat) : colv (lt n) = n := by
  induction n using Nat.strongRecOn with
  | _ n ih =>
    by_cases h : n = 0
    · subst h; simp [lt_zero, colv]
    · rw [lt_pos (by omega), colv_snoc, ih _ (by omega), and31 _ (Nat.mod_lt _ (by omega))]
      omega

theorem letter_ofNat (k : Nat) (h : k < 26) : letterI ((UInt8.ofNat (65 + k)).toNat : Int) = true := by
  have : ∀ k : Fin 26, letterI ((UInt8.ofNat (65 + k.val)).toNat : Int) = true := by decide
  exact this ⟨k, h⟩

theorem lt_letters (n : Nat) : ∀ c ∈ lt n, letterI (c.toNat : Int) = true := by
  induction n using Nat.strongRecOn with
  | _ n ih =>
    by_cases h : n = 0
    · subst h; simp [lt_zero]
    · rw [lt_pos (by omega)]
      intro c hc
      rcases List.mem_append.1 hc with hc | hc
      · exact ih _ (by omega) c hc
      · obtain rfl := List.mem_singleton.1 hc
        exact letter_ofNat _ (Nat.mod_lt _ (by omega))

theorem lt_len : ∀ (k n : Nat), n < 26 ^ k → (lt n).length ≤ k := by
  intro k
  induction k with
  | zero => intro n h; obtain rfl : n = 0 := by simpa using h
            simp [lt_zero]
  | succ k ih =>
    intro n h
    by_cases h0 : n = 0
    · subst h0; simp [lt_zero]
    · rw [lt_pos (by omega), List.length_append]
      have := ih ((n - 1) / 26) (by rw [Nat.pow_succ] at h; omega)
      simp; omega

theorem lt_ne_nil {n : Nat} (h : 0 < n) : lt n ≠ [] := by rw [lt_pos h]; simp

theorem bytesLess_append : ∀ (x y a b : List UInt8), x.length = y.length → Op.bytesLess x y = true → Op.bytesLess (x ++ a) (y ++ b) = true
  | [], [], _, _, _, h => by simp [Op.bytesLess] at h
  | a :: x, b :: y, u, v, hl, h => by
    simp only [Op.bytesLess, Bool.or_eq_true, decide_eq_true_eq, Bool.and_eq_true, beq_iff_eq, List.cons_append] at h ⊢
    rcases h with h | ⟨h1, h2⟩
    · exact .inl h
    · exact .inr ⟨h1, bytesLess_append x y u v (by simpa using hl) h2⟩

theorem bytesLess_same : ∀ (x a b : List UInt8), Op.bytesLess a b = true → Op.bytesLess (x ++ a) (x ++ b) = true
  | [], _, _, h => h
  | c :: x, a, b, h => by
    simp only [Op.bytesLess, List.cons_append, Bool.or_eq_true, decide_eq_true_eq, Bool.and_eq_true, beq_iff_eq]
    exact .inr ⟨trivial, bytesLess_same x a b h⟩

/-- The order of the letters of columns: fewer letters first, then by the alphabet. -/
def before (a b : List UInt8) : Prop := a.length < b.length ∨ (a.length = b.length ∧ Op.bytesLess a b = true)

theorem lt_succ (n : Nat) : before (lt n) (lt (n + 1)) := by
  induction n using Nat.strongRecOn with
  | _ n ih =>
    by_cases h : n = 0
    · subst h; left; rw [lt_zero, lt_pos (n := 0 + 1) (by omega)]; simp
    · rw [lt_pos (n := n) (by omega), lt_pos (n := n + 1) (by omega)]
      by_cases hz : (n - 1) % 26 = 25
      · have e : (n + 1 - 1) / 26 = (n - 1) / 26 + 1 := by omega
        rw [e]
        rcases ih ((n - 1) / 26) (by omega) with hl | ⟨hl, hb⟩
        · left; simp; omega
        · right; exact ⟨by simp; omega, bytesLess_append _ _ _ _ hl hb⟩
      · have e : (n + 1 - 1) / 26 = (n - 1) / 26 := by omega
        have e2 : (n + 1 - 1) % 26 = (n - 1) % 26 + 1 := by omega
        rw [e, e2]
        right
        refine ⟨by simp, bytesLess_same _ _ _ ?_⟩
        have : ∀ k : Fin 25, Op.bytesLess [UInt8.ofNat (65 + k.val)] [UInt8.ofNat (65 + (k.val + 1))] = true := by decide
        exact this ⟨(n - 1) % 26, by omega⟩

def letters (l : List UInt8) : Bool := l.all fun c => letterI (c.toNat : Int)

/-- What Column answers: a column and an error's number. -/
def column (l : List UInt8) : Int × Int :=
  if l = [] ∨ 7 < l.length ∨ letters l = false then (0, 10) else if 1073741824 < colv l then (0, 2) else ((colv l : Int) - 1, 0)

theorem colv_le (l : List UInt8) : colv l < 32 ^ (l.length + 1) := by
  have gen : ∀ (l : List UInt8) (n k : Nat), n < 32 ^ k → l.foldl (fun n c => 26 * n + (c.toNat &&& 31)) n < 32 ^ (k + l.length) := by
    intro l
    induction l with
    | nil => intro n k h; simpa using h
    | cons c l ih =>
      intro n k h
      have hc : (c.toNat &&& 31) ≤ 31 := Nat.and_le_right
      have := ih (26 * n + (c.toNat &&& 31)) (k + 1) (by rw [Nat.pow_succ]; omega)
      rw [List.foldl_cons, List.length_cons, show k + (l.length + 1) = k + 1 + l.length by omega]
      exact this
  have := gen l 0 1 (by decide)
  rw [Nat.add_comm] at this
  exact this

theorem colv_seven {l : List UInt8} (h : l.length ≤ 7) : colv l < 1099511627776 := by
  have h1 := colv_le l
  have h2 : 32 ^ (l.length + 1) ≤ 32 ^ 8 := Nat.pow_le_pow_right (by decide) (by omega)
  have h3 : (32 : Nat) ^ 8 = 1099511627776 := by decide
  omega

theorem letters_take {l : List UInt8} (h : letters l = true) (k : Nat) : letters (l.take k) = true := by
  unfold letters at *
  rw [List.all_eq_true] at *
  intro c hc
  exact h c (List.mem_of_mem_take hc)

theorem letters_false {l : List UInt8} (h : letters l = false) : ∃ i, ∃ hi : i < l.length, letterI (l[i].toNat : Int) = false := by
  unfold letters at h
  rw [List.all_eq_false] at h
  obtain ⟨c, hc, hl⟩ := h
  obtain ⟨i, hi, rfl⟩ := List.getElem_of_mem hc
  exact ⟨i, hi, by simpa using hl⟩

theorem column_bad {l : List UInt8} {i : Nat} (hi : i < l.length) (h : letterI (l[i].toNat : Int) = false) : column l = (0, 10) := by
  have : letters l = false := by
    unfold letters
    rw [List.all_eq_false]
    exact ⟨l[i], List.getElem_mem hi, by simp [h]⟩
  rw [column, if_pos (.inr (.inr this))]

theorem colv_take (l : List UInt8) (k : Nat) (h : k < l.length) : colv (l.take (k + 1)) = 26 * colv (l.take k) + (l[k].toNat &&& 31) := by
  rw [← colv_snoc, List.take_succ_eq_append_getElem h]

theorem letters_step {l : List UInt8} {k : Nat} (h : k < l.length) (hl : letters (l.take k) = true) (hk : letterI (l[k].toNat : Int) = true) : letters (l.take (k + 1)) = true := by
  rw [List.take_succ_eq_append_getElem h]
  unfold letters at *
  rw [List.all_append, hl]
  simp [hk]

end Go.Proofs.YtjgojbkmeggmhaaDoor.Cr
