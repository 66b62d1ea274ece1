/- Plain: an array of rows and columns, turned; turned twice it is the same; parts of its rows. -/
namespace Go.Proofs.YtllhefjblipddaaGreatDoor

section
variable {α : Type} [Inhabited α]
/-- The items of the turned array: rows become columns. -/
def turnL (rows cols : Nat) (us : List α) : List α := (List.range (cols * rows)).map fun j => us[(j % rows) * cols + j / rows]!
theorem turnL_len (rows cols : Nat) (us : List α) : (turnL rows cols us).length = cols * rows := by simp [turnL]
theorem turnL_get (rows cols : Nat) (us : List α) (k i : Nat) (hk : k < cols) (hi : i < rows) : (turnL rows cols us)[k * rows + i]! = us[i * cols + k]! := by
  have h : k * rows + i < cols * rows := by
    have := Nat.mul_le_mul_right rows (show k + 1 ≤ cols from hk)
    rw [Nat.add_mul] at this
    omega
  unfold turnL
  rw [getElem!_pos _ _ (by simpa using h)]
  rw [List.getElem_map, List.getElem_range]
  have e1 : (k * rows + i) % rows = i := by rw [Nat.mul_comm, Nat.mul_add_mod, Nat.mod_eq_of_lt hi]
  have e2 : (k * rows + i) / rows = k := by rw [Nat.mul_comm, Nat.mul_add_div (by omega), Nat.div_eq_of_lt hi, Nat.add_zero]
  rw [e1, e2]
/-- As the loop makes it: column by column. -/
theorem turnL_step (rows cols : Nat) (us : List α) (k i : Nat) (hk : k < cols) (hi : i < rows) : (turnL rows cols us).take (k * rows + i + 1) = (turnL rows cols us).take (k * rows + i) ++ [us[i * cols + k]!] := by
  have h : k * rows + i < cols * rows := by
    have := Nat.mul_le_mul_right rows (show k + 1 ≤ cols from hk)
    rw [Nat.add_mul] at this
    omega
  have hl : k * rows + i < (turnL rows cols us).length := by rw [turnL_len]; exact h
  rw [← List.take_append_getElem hl]
  congr 2
  have := turnL_get rows cols us k i hk hi
  rw [getElem!_pos (turnL rows cols us) _ hl] at this
  exact this
theorem turn_turn (rows cols : Nat) (us : List α) (hl : us.length = rows * cols) : turnL cols rows (turnL rows cols us) = us := by
  apply List.ext_getElem
  · rw [turnL_len, hl]
  · intro j h1 h2
    have hj : j < rows * cols := by rw [← hl]; exact h2
    have hc : 0 < cols := by
      rcases Nat.eq_zero_or_pos cols with h | h
      · rw [h, Nat.mul_zero] at hj; omega
      · exact h
    have hi : j / cols < rows := (Nat.div_lt_iff_lt_mul hc).2 hj
    have hk : j % cols < cols := Nat.mod_lt _ hc
    have e : j = j / cols * cols + j % cols := by rw [Nat.mul_comm]; exact (Nat.div_add_mod j cols).symm
    have g1 := turnL_get cols rows (turnL rows cols us) (j / cols) (j % cols) hi hk
    rw [← e, turnL_get rows cols us (j % cols) (j / cols) hk hi, ← e] at g1
    rw [getElem!_pos (turnL cols rows (turnL rows cols us)) _ h1, getElem!_pos us _ h2] at g1
    exact g1
end
section
variable {α : Type}
/-- Rows that follow one another. -/
def rowsL (cols from_ n : Nat) (us : List α) : List α := (us.drop (from_ * cols)).take (n * cols)
theorem rowsL_zero (cols from_ : Nat) (us : List α) : rowsL cols from_ 0 us = [] := by simp [rowsL]
/-- One row more. -/
theorem rowsL_step (cols from_ n : Nat) (us : List α) : rowsL cols from_ (n + 1) us = rowsL cols from_ n us ++ (us.drop ((from_ + n) * cols)).take cols := by
  unfold rowsL
  rw [Nat.add_mul, Nat.one_mul, List.take_add, List.drop_drop, Nat.add_mul]
theorem rowsL_len (cols from_ n : Nat) (us : List α) (h : (from_ + n) * cols ≤ us.length) : (rowsL cols from_ n us).length = n * cols := by
  unfold rowsL
  rw [Nat.add_mul] at h
  rw [List.length_take, List.length_drop]
  omega
/-- The first rows and the rest are all. -/
theorem rowsL_all (cols R n : Nat) (us : List α) (hl : us.length = R * cols) : rowsL cols 0 n us ++ rowsL cols n (R - n) us = us := by
  unfold rowsL
  rw [Nat.zero_mul, List.drop_zero]
  have e : (us.drop (n * cols)).take ((R - n) * cols) = us.drop (n * cols) := by
    apply List.take_of_length_le
    rw [List.length_drop, hl, Nat.sub_mul]
    omega
  rw [e, List.take_append_drop]
end
end Go.Proofs.YtllhefjblipddaaGreatDoor
