/- Plain: comparisons with three answers: what makes one order of them. -/
import Derived.Test.YtllhefjblipddaaGreatDoorRows
set_option linter.unusedSimpArgs false
set_option linter.unusedVariables false
namespace Go.Proofs.YtllhefjblipddaaGreatDoor.Cm

/-- A comparison: turned round it changes its sign, and what is not greater goes on. -/
structure IsC {α : Type} (f : α → α → Int) : Prop where
  anti : ∀ a b, f a b = - f b a
  trans : ∀ a b c, f a b ≤ 0 → f b c ≤ 0 → f a c ≤ 0
theorem IsC.lt {α : Type} {f : α → α → Int} (h : IsC f) {a b c : α} (h1 : f a b < 0) (h2 : f b c ≤ 0) : f a c < 0 := by
  rcases Int.lt_or_le (f a c) 0 with h3 | h3
  · exact h3
  · exfalso
    have e1 := h.anti a c
    have e2 := h.anti a b
    have := h.trans b c a h2 (by omega)
    omega
theorem IsC.lt' {α : Type} {f : α → α → Int} (h : IsC f) {a b c : α} (h1 : f a b ≤ 0) (h2 : f b c < 0) : f a c < 0 := by
  rcases Int.lt_or_le (f a c) 0 with h3 | h3
  · exact h3
  · exfalso
    have e1 := h.anti a c
    have e2 := h.anti b c
    have := h.trans c a b (by omega) h1
    omega
/-- One comparison, and another one where the first sees no difference. -/
def orC {α : Type} (f g : α → α → Int) (a b : α) : Int := if f a b ≠ 0 then f a b else g a b
theorem IsC.or {α : Type} {f g : α → α → Int} (hf : IsC f) (hg : IsC g) : IsC (orC f g) := by
  refine ⟨fun a b => ?_, fun a b c h1 h2 => ?_⟩
  · have e1 := hf.anti a b
    have e2 := hg.anti a b
    unfold orC
    split <;> split <;> omega
  · unfold orC at *
    have t := hf.trans a b c
    have g' := hg.trans a b c
    have l1 := @IsC.lt _ _ hf a b c
    have l2 := @IsC.lt' _ _ hf a b c
    split at h1 <;> split at h2 <;> split <;> omega
theorem IsC.map {α β : Type} {f : β → β → Int} (h : IsC f) (k : α → β) : IsC (fun a b => f (k a) (k b)) := ⟨fun _a _b => h.anti _ _, fun _a _b _c => h.trans _ _ _⟩
def intC (a b : Int) : Int := if a < b then -1 else if b < a then 1 else 0
theorem intC_anti (a b : Int) : intC a b = - intC b a := by
  unfold intC
  split <;> split <;> omega
theorem intC_trans (a b c : Int) (h1 : intC a b ≤ 0) (h2 : intC b c ≤ 0) : intC a c ≤ 0 := by
  unfold intC at *
  repeat' split at h1
  all_goals repeat' split at h2
  all_goals repeat' split
  all_goals omega
theorem intC_is : IsC intC := ⟨intC_anti, intC_trans⟩
theorem subC_is : IsC (fun a b : Int => a - b) := ⟨fun a b => by omega, fun a b c h1 h2 => by omega⟩
/-- Strings, byte by byte. -/
def strC (a b : List UInt8) : Int := if Op.bytesLess a b then -1 else if Op.bytesLess b a then 1 else 0
theorem strC_cons (x y : UInt8) (s t : List UInt8) : strC (x :: s) (y :: t) = if x.toNat < y.toNat then -1 else if y.toNat < x.toNat then 1 else strC s t := by
  unfold strC
  simp only [Op.bytesLess, Bool.or_eq_true, decide_eq_true_eq, Bool.and_eq_true, beq_iff_eq, UInt8.lt_iff_toNat_lt]
  by_cases h1 : x.toNat < y.toNat
  · rw [if_pos (.inl h1), if_pos h1]
  · by_cases h2 : y.toNat < x.toNat
    · have hne : x ≠ y := fun e => by subst e; omega
      rw [if_neg (fun h => h.elim h1 fun h => hne h.1), if_pos (.inl h2), if_neg h1, if_pos h2]
    · obtain rfl : x = y := UInt8.toNat_inj.1 (by omega)
      simp
theorem strC_nil (t : List UInt8) : strC [] t = if t = [] then 0 else -1 := by
  cases t <;> simp [strC, Op.bytesLess]
theorem strC_nil' (t : List UInt8) : strC t [] = if t = [] then 0 else 1 := by
  cases t <;> simp [strC, Op.bytesLess]
theorem strC_anti : ∀ a b, strC a b = - strC b a
  | [], b => by rw [strC_nil, strC_nil']; split <;> rfl
  | x :: s, [] => by rw [strC_nil, strC_nil']; simp
  | x :: s, y :: t => by
    rw [strC_cons, strC_cons, strC_anti s t]
    split <;> split <;> omega
theorem strC_zero : ∀ {a b}, strC a b = 0 → a = b
  | [], b, h => by rw [strC_nil] at h; split at h <;> simp_all
  | x :: s, [], h => by rw [strC_nil'] at h; simp at h
  | x :: s, y :: t, h => by
    rw [strC_cons] at h
    split at h
    · simp at h
    · split at h
      · simp at h
      · obtain rfl : x = y := UInt8.toNat_inj.1 (by omega)
        rw [strC_zero h]
theorem strC_trans : ∀ a b c, strC a b ≤ 0 → strC b c ≤ 0 → strC a c ≤ 0
  | [], b, c, _, _ => by rw [strC_nil]; split <;> decide
  | x :: s, [], c, h, _ => by rw [strC_nil'] at h; simp at h
  | x :: s, y :: t, [], _, h => by rw [strC_nil'] at h; simp at h
  | x :: s, y :: t, z :: u, h1, h2 => by
    have ih := strC_trans s t u
    rw [strC_cons] at h1 h2 ⊢
    repeat' split at h1
    all_goals repeat' split at h2
    all_goals repeat' split
    all_goals first | omega | (exact ih h1 h2) | (exfalso; omega)
theorem strC_is : IsC strC := ⟨strC_anti, strC_trans⟩
/-- Fractions with denominators that are not zero. -/
def fracC (a b : Int × Nat) : Int := Int.sign (a.1 * b.2 - b.1 * a.2)
theorem sign_le {x : Int} : Int.sign x ≤ 0 ↔ x ≤ 0 := by
  rcases Int.lt_trichotomy x 0 with h | h | h
  · rw [Int.sign_eq_neg_one_of_neg h]; omega
  · subst h; simp
  · rw [Int.sign_eq_one_of_pos h]; omega
theorem fracC_anti (a b : Int × Nat) : fracC a b = - fracC b a := by
  unfold fracC
  rw [← Int.sign_neg]
  congr 1
  omega
theorem fracC_trans (a b c : Int × Nat) (ha : a.2 ≠ 0) (hb : b.2 ≠ 0) (hc : c.2 ≠ 0) (h1 : fracC a b ≤ 0) (h2 : fracC b c ≤ 0) : fracC a c ≤ 0 := by
  unfold fracC at *
  rw [sign_le] at *
  obtain ⟨x, p⟩ := a
  obtain ⟨y, q⟩ := b
  obtain ⟨z, r⟩ := c
  dsimp only at *
  have hq : (0 : Int) < q := by omega
  have e1 : x * q * r ≤ y * p * r := Int.mul_le_mul_of_nonneg_right (by omega) (by omega)
  have e2 : y * r * p ≤ z * q * p := Int.mul_le_mul_of_nonneg_right (by omega) (by omega)
  have e3 : q * (x * r) ≤ q * (z * p) := by
    have a1 : (q : Int) * (x * r) = x * q * r := by ac_rfl
    have a2 : (q : Int) * (z * p) = z * q * p := by ac_rfl
    have a3 : y * (p : Int) * r = y * r * p := by ac_rfl
    omega
  have := Int.le_of_mul_le_mul_left e3 hq
  omega
/-- What the law asks of three answers. -/
theorem law {α : Type} {f : α → α → Int} (hf : IsC f) (a b c : α) : f a b = - f b a ∧ (0 < f a b ∨ 0 < f b c ∨ f a c ≤ 0) ∧ (f a b < 0 ∨ f b c < 0 ∨ 0 ≤ f a c) := by
  have t1 := hf.trans a b c
  have t2 := hf.trans c b a
  have e1 := hf.anti a b
  have e2 := hf.anti b c
  have e3 := hf.anti a c
  exact ⟨e1, by omega, by omega⟩
end Go.Proofs.YtllhefjblipddaaGreatDoor.Cm

namespace Go.Proofs.YtllhefjblipddaaGreatDoor
namespace Pv
section
variable {α : Type}
def sm (f : α → Nat) (l : List α) : Nat := (l.map f).sum
theorem sm_nil (f : α → Nat) : sm f [] = 0 := rfl
theorem sm_cons (f : α → Nat) (x : α) (l : List α) : sm f (x :: l) = f x + sm f l := by simp [sm]
theorem sm_app (f : α → Nat) (l m : List α) : sm f (l ++ m) = sm f l + sm f m := by simp [sm]
def tot (g : Nat → Nat) : Nat → Nat
  | 0 => 0
  | n + 1 => tot g n + g n
theorem tot_congr {g h : Nat → Nat} : ∀ n, (∀ k, k < n → g k = h k) → tot g n = tot h n
  | 0, _ => rfl
  | n + 1, e => by rw [tot, tot, tot_congr n fun k hk => e k (by omega), e n (Nat.lt_succ_self n)]
theorem tot_add (g h : Nat → Nat) : ∀ n, tot (fun k => g k + h k) n = tot g n + tot h n
  | 0 => rfl
  | n + 1 => by simp only [tot, tot_add g h n]; omega
theorem tot_zero : ∀ n, tot (fun _ => 0) n = 0
  | 0 => rfl
  | n + 1 => by rw [tot, tot_zero n]
theorem tot_one (c i : Nat) : ∀ n, tot (fun k => if i = k then c else 0) n = if i < n then c else 0
  | 0 => rfl
  | n + 1 => by
    rw [tot, tot_one c i n]
    by_cases h : i = n
    · subst h; rw [if_neg (Nat.lt_irrefl _), if_pos rfl, if_pos (Nat.lt_succ_self _)]; omega
    · rw [if_neg h]
      by_cases h2 : i < n
      · rw [if_pos h2, if_pos (by omega)]; omega
      · rw [if_neg h2, if_neg (by omega)]
/-- The groups of a list are the list. -/
theorem tot_groups (p : α → Nat) (f : α → Nat) (n : Nat) : ∀ l : List α, (∀ x ∈ l, p x < n) → tot (fun k => sm f (l.filter fun x => p x == k)) n = sm f l
  | [], _ => by simp only [List.filter_nil, sm_nil, tot_zero]
  | x :: t, h => by
    have ih := tot_groups p f n t fun y hy => h y (by simp [hy])
    rw [sm_cons, ← ih]
    have e : ∀ k, k < n → sm f ((x :: t).filter fun x => p x == k) = (if p x = k then f x else 0) + sm f (t.filter fun x => p x == k) := fun k _ => by
      rw [List.filter_cons]
      by_cases hk : p x = k
      · rw [if_pos (by simp [hk]), sm_cons, if_pos hk]
      · rw [if_neg (by simp [hk]), if_neg hk]; omega
    rw [tot_congr n e, tot_add, tot_one, if_pos (h x (by simp))]
theorem sm_one (l : List α) : sm (fun _ => 1) l = l.length := by
  induction l with
  | nil => rfl
  | cons x t ih => rw [sm_cons, ih, List.length_cons]; omega
theorem sm_le (f : α → Nat) (c : Nat) : ∀ l : List α, (∀ x ∈ l, f x ≤ c) → sm f l ≤ c * l.length
  | [], _ => Nat.zero_le _
  | x :: t, h => by
    have ih := sm_le f c t fun y hy => h y (by simp [hy])
    have := h x (by simp)
    rw [sm_cons, List.length_cons, Nat.mul_add]
    omega
end
section
variable {α : Type} (rw cl : α → Nat)
def gr (l : List α) (i k : Nat) : List α := l.filter fun r => rw r == i && cl r == k
def gr1 (l : List α) (i : Nat) : List α := l.filter fun r => rw r == i
theorem gr_eq (l : List α) (i k : Nat) : gr rw cl l i k = gr1 cl (gr1 rw l i) k := by
  unfold gr gr1
  rw [List.filter_filter]
  exact List.filter_congr fun x _ => Bool.and_comm ..
variable (l : List α) (n m : Nat) (f : α → Nat)
theorem rows_up (h : ∀ r ∈ l, cl r < m) (i : Nat) : tot (fun k => sm f (gr rw cl l i k)) m = sm f (gr1 rw l i) := by
  simp only [gr_eq]
  exact tot_groups cl f m (gr1 rw l i) fun r hr => h r (List.mem_filter.1 hr).1
theorem all_up (h : ∀ r ∈ l, rw r < n) : tot (fun i => sm f (gr1 rw l i)) n = sm f l := tot_groups rw f n l h
end
end Pv
end Go.Proofs.YtllhefjblipddaaGreatDoor

namespace Go.Proofs.YtllhefjblipddaaGreatDoor

inductive All2 {α β : Type} (R : α → β → Prop) : List α → List β → Prop
  | nil : All2 R [] []
  | cons {x y l m} : R x y → All2 R l m → All2 R (x :: l) (y :: m)
section
variable {α β : Type} {R S : α → β → Prop} {l : List α} {m : List β}
theorem All2.len (h : All2 R l m) : l.length = m.length := by
  induction h with
  | nil => rfl
  | cons _ _ ih => simp [ih]
theorem All2.imp (h : All2 R l m) (hs : ∀ x ∈ l, ∀ y, R x y → S x y) : All2 S l m := by
  induction h with
  | nil => exact .nil
  | cons h1 _ ih => exact .cons (hs _ (by simp) _ h1) (ih fun x hx => hs x (by simp [hx]))
theorem All2.app (h : All2 R l m) {x : α} {y : β} (h1 : R x y) : All2 R (l ++ [x]) (m ++ [y]) := by
  induction h with
  | nil => exact .cons h1 .nil
  | cons h2 _ ih => exact .cons h2 ih
theorem All2.get (h : All2 R l m) : ∀ (i : Nat) (h1 : i < l.length) (h2 : i < m.length), R l[i] m[i] := by
  induction h with
  | nil => intro i h1; simp at h1
  | cons h3 _ ih =>
    intro i h1 h2
    cases i with
    | zero => exact h3
    | succ i => exact ih i (by simpa using h1) (by simpa using h2)
theorem All2.maps {γ : Type} {f : γ → α} {k : γ → β} : ∀ l : List γ, (∀ x ∈ l, R (f x) (k x)) → All2 R (l.map f) (l.map k)
  | [], _ => .nil
  | x :: t, h => .cons (h x (by simp)) (All2.maps t fun y hy => h y (by simp [hy]))
theorem All2.zip (h : All2 R l m) : ∃ p : List (α × β), p.map Prod.fst = l ∧ p.map Prod.snd = m ∧ ∀ x ∈ p, R x.1 x.2 := by
  induction h with
  | nil => exact ⟨[], rfl, rfl, fun x hx => absurd hx (by simp)⟩
  | @cons x y _ _ h1 _ ih =>
    obtain ⟨p, e1, e2, h3⟩ := ih
    refine ⟨(x, y) :: p, by rw [List.map_cons, e1], by rw [List.map_cons, e2], fun q hq => ?_⟩
    rcases List.mem_cons.1 hq with rfl | hq
    · exact h1
    · exact h3 q hq
end
end Go.Proofs.YtllhefjblipddaaGreatDoor
