/- Natural numbers in the base 10^9, as lists of digits: plain. -/
import Derived.Lib.Strings
set_option linter.unusedSimpArgs false
set_option linter.unusedVariables false
namespace Go.Proofs.YtcnlonaighlmbaaGreatDoor.Nt

abbrev B : Nat := 1000000000

/-- The number of digits, the least significant one first. -/
def val : List Nat → Nat
  | [] => 0
  | d :: t => d + B * val t
/-- Digits. -/
def dig (l : List Nat) : Prop := ∀ d ∈ l, d < B
/-- No zero at the end. -/
def canon (l : List Nat) : Prop := dig l ∧ l.getLast? ≠ some 0

theorem val_cons (d : Nat) (t : List Nat) : val (d :: t) = d + B * val t := rfl
theorem val_append : ∀ (a b : List Nat), val (a ++ b) = val a + B ^ a.length * val b
  | [], b => by simp [val]
  | d :: t, b => by
    rw [List.cons_append, val_cons, val_cons, val_append t b, List.length_cons, Nat.pow_succ, Nat.mul_add, Nat.mul_comm (B ^ t.length) B, Nat.mul_assoc]
    omega
theorem val_snoc (a : List Nat) (d : Nat) : val (a ++ [d]) = val a + B ^ a.length * d := by
  rw [val_append]; simp [val]
theorem val_lt : ∀ {l : List Nat}, dig l → val l < B ^ l.length
  | [], _ => by simp [val]
  | d :: t, h => by
    have h1 := h d (by simp)
    have h2 := val_lt (l := t) fun x hx => h x (by simp [hx])
    rw [val_cons, List.length_cons, Nat.pow_succ]
    have : B * (val t + 1) ≤ B * B ^ t.length := Nat.mul_le_mul_left _ h2
    rw [Nat.mul_comm B (B ^ t.length), Nat.mul_succ] at this
    omega
theorem dig_nil : dig [] := fun _ h => by cases h
theorem dig_append {a b : List Nat} (ha : dig a) (hb : dig b) : dig (a ++ b) := fun d hd => (List.mem_append.1 hd).elim (ha d) (hb d)
theorem dig_one {d : Nat} (h : d < B) : dig [d] := fun x hx => by obtain rfl := List.mem_singleton.1 hx; exact h
theorem dig_take {l : List Nat} (h : dig l) (k : Nat) : dig (l.take k) := fun d hd => h d (List.mem_of_mem_take hd)
theorem dig_drop {l : List Nat} (h : dig l) (k : Nat) : dig (l.drop k) := fun d hd => h d (List.mem_of_mem_drop hd)
theorem canon_nil : canon [] := ⟨dig_nil, by simp⟩
theorem canon_zero {l : List Nat} (h : canon l) (hv : val l = 0) : l = [] := by
  obtain ⟨hd, hl⟩ := h
  rcases List.eq_nil_or_concat l with rfl | ⟨a, d, rfl⟩
  · rfl
  · exfalso
    rw [List.concat_eq_append] at hv hl
    rw [val_snoc] at hv
    have : d ≠ 0 := by rintro rfl; simp at hl
    have hp : 0 < B ^ a.length := Nat.pow_pos (by decide)
    have : 0 < B ^ a.length * d := Nat.mul_pos hp (by omega)
    omega
/-- A canonical list of k + 1 digits is at least B^k. -/
theorem canon_ge {l : List Nat} (h : canon l) (h0 : l ≠ []) : B ^ (l.length - 1) ≤ val l := by
  obtain ⟨hd, hl⟩ := h
  rcases List.eq_nil_or_concat l with rfl | ⟨a, d, rfl⟩
  · exact absurd rfl h0
  · rw [List.concat_eq_append] at hl ⊢
    have : d ≠ 0 := by rintro rfl; simp at hl
    rw [val_snoc, List.length_append, List.length_singleton, Nat.add_sub_cancel]
    have : B ^ a.length * 1 ≤ B ^ a.length * d := Nat.mul_le_mul_left _ (by omega)
    omega
theorem canon_len_lt {a b : List Nat} (ha : canon a) (hb : canon b) (h : a.length < b.length) : val a < val b := by
  have h1 := val_lt ha.1
  have h2 := canon_ge hb (by rintro rfl; simp at h)
  have h3 : B ^ a.length ≤ B ^ (b.length - 1) := Nat.pow_le_pow_right (by decide) (by omega)
  omega
theorem val_inj : ∀ {a b : List Nat}, dig a → dig b → a.length = b.length → val a = val b → a = b
  | [], [], _, _, _, _ => rfl
  | [], _ :: _, _, _, h, _ => by simp at h
  | _ :: _, [], _, _, h, _ => by simp at h
  | c :: s, d :: t, ha, hb, hl, hv => by
    have h1 := ha c (by simp)
    have h2 := hb d (by simp)
    rw [val_cons, val_cons] at hv
    have e1 : (c + B * val s) % B = c := by rw [Nat.add_mul_mod_self_left, Nat.mod_eq_of_lt h1]
    have e2 : (d + B * val t) % B = d := by rw [Nat.add_mul_mod_self_left, Nat.mod_eq_of_lt h2]
    have hc : c = d := by rw [← e1, ← e2, hv]
    subst hc
    have ht : val s = val t := Nat.eq_of_mul_eq_mul_left (by decide : 0 < B) (by omega)
    rw [val_inj (fun x hx => ha x (by simp [hx])) (fun x hx => hb x (by simp [hx])) (by simpa using hl) ht]
theorem canon_inj {a b : List Nat} (ha : canon a) (hb : canon b) (h : val a = val b) : a = b := by
  refine val_inj ha.1 hb.1 ?_ h
  rcases Nat.lt_trichotomy a.length b.length with hl | hl | hl
  · have := canon_len_lt ha hb hl; omega
  · exact hl
  · have := canon_len_lt hb ha hl; omega

/-- The zeros at the end struck. -/
def trimL (l : List Nat) : List Nat := (l.reverse.dropWhile (· == 0)).reverse
theorem trimL_zero (a : List Nat) : trimL (a ++ [0]) = trimL a := by simp [trimL]
theorem trimL_pos (a : List Nat) {d : Nat} (h : d ≠ 0) : trimL (a ++ [d]) = a ++ [d] := by simp [trimL, h]
theorem trimL_spec : ∀ (n : Nat) (l : List Nat), l.length = n → dig l → canon (trimL l) ∧ val (trimL l) = val l ∧ (trimL l).length ≤ l.length
  | 0, l, hl, _ => by obtain rfl := List.eq_nil_of_length_eq_zero hl; exact ⟨canon_nil, rfl, Nat.le_refl _⟩
  | n + 1, l, hl, hd => by
    rcases List.eq_nil_or_concat l with rfl | ⟨a, d, rfl⟩
    · cases hl
    · rw [List.concat_eq_append] at *
      by_cases h : d = 0
      · subst h
        obtain ⟨h1, h2, h3⟩ := trimL_spec n a (by simpa using hl) fun x hx => hd x (by simp [hx])
        rw [trimL_zero]
        exact ⟨h1, by rw [h2, val_snoc]; simp, by simp; omega⟩
      · rw [trimL_pos a h]
        exact ⟨⟨hd, by simpa using h⟩, rfl, Nat.le_refl _⟩
theorem trimL_canon {l : List Nat} (h : dig l) : canon (trimL l) := (trimL_spec _ l rfl h).1
theorem trimL_val {l : List Nat} (h : dig l) : val (trimL l) = val l := (trimL_spec _ l rfl h).2.1

/-- The digits of a number. -/
def digs (n : Nat) : List Nat := if _h : n = 0 then [] else n % B :: digs (n / B)
termination_by n
decreasing_by exact Nat.div_lt_self (by omega) (by decide)
theorem digs_zero : digs 0 = [] := by rw [digs]; simp
theorem digs_pos {n : Nat} (h : 0 < n) : digs n = n % B :: digs (n / B) := by rw [digs, dif_neg (by omega)]
theorem digs_spec (n : Nat) : canon (digs n) ∧ val (digs n) = n := by
  induction n using Nat.strongRecOn with
  | _ n ih =>
    by_cases h : n = 0
    · subst h; rw [digs_zero]; exact ⟨canon_nil, rfl⟩
    · obtain ⟨⟨h1, h2⟩, h3⟩ := ih (n / B) (Nat.div_lt_self (by omega) (by decide))
      rw [digs_pos (by omega)]
      refine ⟨⟨fun d hd => ?_, ?_⟩, by rw [val_cons, h3]; exact Nat.mod_add_div n B⟩
      · rcases List.mem_cons.1 hd with rfl | hd
        · exact Nat.mod_lt _ (by decide)
        · exact h1 d hd
      · intro hlast
        by_cases hz : n / B = 0
        · rw [hz, digs_zero] at hlast
          have hm := Nat.mod_add_div n B
          rw [hz] at hm
          simp at hlast
          rw [hlast] at hm
          omega
        · have hne : digs (n / B) ≠ [] := by rw [digs_pos (by omega)]; simp
          rw [List.getLast?_cons] at hlast
          cases hx : (digs (n / B)).getLast? with
          | none => simp at hx; exact hne hx
          | some x => rw [hx] at hlast; simp at hlast; subst hlast; exact h2 hx
theorem digs_val {l : List Nat} (h : canon l) : digs (val l) = l := canon_inj (digs_spec _).1 h (digs_spec _).2
theorem digs_canon (n : Nat) : canon (digs n) := (digs_spec n).1
theorem val_digs (n : Nat) : val (digs n) = n := (digs_spec n).2
theorem digs_len {n k : Nat} (h : n < B ^ k) : (digs n).length ≤ k := by
  by_cases h0 : digs n = []
  · rw [h0]; simp
  · have := canon_ge (digs_canon n) h0
    rw [val_digs] at this
    have h2 : B ^ ((digs n).length - 1) < B ^ k := by omega
    have := (Nat.pow_lt_pow_iff_right (by decide : 1 < B)).1 h2
    omega
end Go.Proofs.YtcnlonaighlmbaaGreatDoor.Nt
