/- A reference is read from its text: the plain law. -/
import Derived.Test.YtdepdihdjghicaaDoorCrTp
import Derived.Test.YtdepdihdjghicaaDoorCrVp
namespace Go.Proofs.YtdepdihdjghicaaDoor
open Go.RowKit
namespace Cr

/-! ### Decimal numerals -/
theorem dec_dgt (u : Nat) : ∀ c ∈ Lib.decDigits u, dgt c = true := by
  induction u using Nat.strongRecOn with
  | _ u ih =>
    rw [Lib.decDigits]
    have key : ∀ k : Fin 10, dgt (UInt8.ofNat (48 + k.val)) = true := by decide
    split
    · rename_i h; intro c hc
      obtain rfl := List.mem_singleton.1 hc
      exact key ⟨u, h⟩
    · rename_i h; intro c hc
      rcases List.mem_append.1 hc with hc | hc
      · exact ih _ (by omega) c hc
      · obtain rfl := List.mem_singleton.1 hc
        exact key ⟨u % 10, Nat.mod_lt _ (by omega)⟩
theorem dec_head (u : Nat) (h : 0 < u) : ∃ c t, Lib.decDigits u = c :: t ∧ c ≠ 48 := by
  induction u using Nat.strongRecOn with
  | _ u ih =>
    rw [Lib.decDigits]
    split
    · rename_i h10
      refine ⟨_, [], rfl, ?_⟩
      have key : ∀ k : Fin 10, k.val ≠ 0 → UInt8.ofNat (48 + k.val) ≠ 48 := by decide
      exact key ⟨u, h10⟩ (by simpa using Nat.pos_iff_ne_zero.1 h)
    · obtain ⟨c, t, e, hc⟩ := ih (u / 10) (by omega) (by omega)
      exact ⟨c, t ++ [UInt8.ofNat (48 + u % 10)], by rw [e]; rfl, hc⟩
theorem decFrom_append : ∀ (l m : List UInt8) (a n : Nat), Lib.decFrom a l = some n → Lib.decFrom a (l ++ m) = Lib.decFrom n m
  | [], m, a, n, h => by cases h; rfl
  | b :: t, m, a, n, h => by
    simp only [Lib.decFrom, List.cons_append] at h ⊢
    cases hd : Lib.digitVal b with
    | none => rw [hd] at h; cases h
    | some d => rw [hd] at h; exact decFrom_append t m _ n h
theorem digitVal_ofNat (k : Nat) (h : k < 10) : Lib.digitVal (UInt8.ofNat (48 + k)) = some k := by
  have key : ∀ k : Fin 10, Lib.digitVal (UInt8.ofNat (48 + k.val)) = some k.val := by decide
  exact key ⟨k, h⟩
theorem decFrom_dec (u : Nat) : Lib.decFrom 0 (Lib.decDigits u) = some u := by
  induction u using Nat.strongRecOn with
  | _ u ih =>
    rw [Lib.decDigits]
    split
    · rename_i h
      unfold Lib.decFrom
      rw [digitVal_ofNat u h]
      simp [Lib.decFrom]
    · rw [decFrom_append _ _ _ _ (ih (u / 10) (by omega))]
      simp only [Lib.decFrom, digitVal_ofNat (u % 10) (Nat.mod_lt _ (by omega))]
      congr 1; omega
theorem atoi_dec (u : Nat) (h : 0 < u) : Lib.atoi (Lib.decDigits u) = some (u : Int) := by
  obtain ⟨c, t, e, _⟩ := dec_head u h
  have hf := decFrom_dec u
  have hd := dec_dgt u c (by rw [e]; simp)
  rw [e] at hf ⊢
  have h1 : (c == 45) = false := by
    rw [beq_eq_false_iff_ne]; rintro rfl; exact absurd hd (by decide)
  have h2 : (c == 43) = false := by
    rw [beq_eq_false_iff_ne]; rintro rfl; exact absurd hd (by decide)
  simp only [Lib.atoi, h1, h2, Lib.decNat, List.isEmpty_cons, Bool.false_eq_true, if_false, hf, Option.map_some]
theorem dec_len (u : Nat) (h : u ≤ 1073741824) : (Lib.decDigits u).length ≤ 10 := by
  rw [Lib.decDigits_length]
  by_cases h0 : u = 0
  · subst h0; rw [Lib.nDigits_small (by omega)]; omega
  · by_cases hc : Lib.nDigits u ≤ 10
    · exact hc
    · exfalso
      -- eleven digits at least
      have key : ∀ (k v : Nat), k + 1 ≤ Lib.nDigits v → 10 ^ k ≤ v ∨ k = 0 := by
        intro k
        induction k with
        | zero => intro v _; exact .inr rfl
        | succ k ih =>
          intro v hv
          left
          by_cases hv10 : v < 10
          · rw [Lib.nDigits_small hv10] at hv; omega
          · rw [Lib.nDigits_big hv10] at hv
            rcases ih (v / 10) (by omega) with h | h
            · rw [Nat.pow_succ]; omega
            · subst h; simp; omega
      rcases key 10 u (by omega) with h | h
      · have : (10 : Nat) ^ 10 = 10000000000 := by decide
        omega
      · cases h

/-! ### What a place reads -/
/-- Letters that stand for the column n. -/
structure Ltrs (L : List UInt8) (n : Nat) : Prop where
  all : ∀ c ∈ L, ltr c = true
  val : colv L = n + 1
  len : L.length ≤ 7
  ne : L ≠ []

theorem ltr_facts {c : UInt8} (h : ltr c = true) : c ≠ 36 ∧ dgt c = false ∧ c ≠ 39 ∧ c ≠ 35 ∧ c ≠ 58 ∧ c ≠ 33 := by
  refine ⟨?_, ?_, ?_, ?_, ?_, ?_⟩
  · rintro rfl; exact absurd h (by decide)
  · unfold ltr letterI at h; unfold dgt digitI
    simp only [Bool.or_eq_true, Bool.and_eq_true, decide_eq_true_eq] at h
    simp only [Bool.and_eq_false_iff, decide_eq_false_iff_not]; omega
  · rintro rfl; exact absurd h (by decide)
  · rintro rfl; exact absurd h (by decide)
  · rintro rfl; exact absurd h (by decide)
  · rintro rfl; exact absurd h (by decide)
theorem dgt_facts {c : UInt8} (h : dgt c = true) : c ≠ 36 ∧ ltr c = false ∧ c ≠ 39 ∧ c ≠ 35 ∧ c ≠ 58 ∧ c ≠ 33 := by
  refine ⟨?_, ?_, ?_, ?_, ?_, ?_⟩
  · rintro rfl; exact absurd h (by decide)
  · unfold dgt digitI at h; unfold ltr letterI
    simp only [Bool.and_eq_true, decide_eq_true_eq] at h
    simp only [Bool.or_eq_false_iff, Bool.and_eq_false_iff, decide_eq_false_iff_not]; omega
  · rintro rfl; exact absurd h (by decide)
  · rintro rfl; exact absurd h (by decide)
  · rintro rfl; exact absurd h (by decide)
  · rintro rfl; exact absurd h (by decide)

theorem ltrs_lt (n : Nat) (h : n < 1073741824) : Ltrs (lt (n + 1)) n :=
  ⟨lt_letters _, colv_lt _, lt_len 7 _ (by omega), lt_ne_nil (by omega)⟩

theorem takeWhile_run {p : UInt8 → Bool} : ∀ {l m : List UInt8}, (∀ c ∈ l, p c = true) → (m.head?.all fun c => !p c) = true → (l ++ m).takeWhile p = l ∧ (l ++ m).dropWhile p = m
  | [], [], _, _ => ⟨rfl, rfl⟩
  | [], c :: t, _, h => by
    have : p c = false := by simpa using h
    simp [List.takeWhile_cons, List.dropWhile_cons, this]
  | a :: l, m, hl, hm => by
    have ha := hl a (by simp)
    have ih := takeWhile_run (l := l) (m := m) (fun c hc => hl c (by simp [hc])) hm
    simp [List.takeWhile_cons, List.dropWhile_cons, ha, ih.1, ih.2]

theorem trim_dollar (b : Bool) (l : List UInt8) (h : l.head? ≠ some 36) : Lib.trimPrefix (dollar b l) [36] = l ∧ Lib.hasPrefix (dollar b l) [36] = b := by
  cases b
  · cases l with
    | nil => exact ⟨rfl, rfl⟩
    | cons c t =>
      have hc : (36 == c) = false := by
        rw [beq_eq_false_iff_ne]; rintro rfl; exact h rfl
      have hp : Lib.hasPrefix (c :: t) [36] = false := by
        simp [Lib.hasPrefix, List.isPrefixOf, hc]
      exact ⟨by unfold dollar; simp only [Bool.false_eq_true, if_false]; rw [Lib.trimPrefix, hp]; rfl, hp⟩
  · exact ⟨rfl, rfl⟩

theorem head_ne {p : UInt8 → Bool} {l : List UInt8} {x : UInt8} (h : ∀ c ∈ l, p c = true) (hx : p x = false) : l.head? ≠ some x := by
  cases l with
  | nil => simp
  | cons c t =>
    simp only [List.head?_cons, ne_eq, Option.some.injEq]
    rintro rfl
    rw [h c (by simp)] at hx; cases hx

theorem hasPrefix_zero {l : List UInt8} (h : l.head? ≠ some 48) : Lib.hasPrefix l [48] = false := by
  cases l with
  | nil => rfl
  | cons c t =>
    have hc : (48 == c) = false := by
      rw [beq_eq_false_iff_ne]; rintro rfl; exact h rfl
    simp [Lib.hasPrefix, List.isPrefixOf, hc]

/-- The digits of the row n. -/
theorem num_facts (n : Nat) (h : n < 1073741824) : (∀ c ∈ Lib.decDigits (n + 1), dgt c = true) ∧ (Lib.decDigits (n + 1)).length ≤ 10 ∧ Lib.decDigits (n + 1) ≠ [] ∧ Lib.hasPrefix (Lib.decDigits (n + 1)) [48] = false := by
  obtain ⟨c, t, e, hc⟩ := dec_head (n + 1) (by omega)
  refine ⟨dec_dgt _, dec_len _ (by omega), by rw [e]; simp, hasPrefix_zero ?_⟩
  rw [e]; simpa using hc

/-- A cell. -/
theorem place_cell {L : List UInt8} {m n : Nat} (hL : Ltrs L m) (hn : n < 1073741824) (ac ar : Bool) :
    placeF (dollar ac L ++ dollar ar (Lib.decDigits (n + 1))) = (⟨L, Lib.decDigits (n + 1), ac, ar⟩, true) := by
  obtain ⟨n1, n2, n3, n4⟩ := num_facts n hn
  have e1 : dollar ac L ++ dollar ar (Lib.decDigits (n + 1)) = dollar ac (L ++ dollar ar (Lib.decDigits (n + 1))) := by
    cases ac <;> rfl
  have h36 : (L ++ dollar ar (Lib.decDigits (n + 1))).head? ≠ some 36 := by
    have h1 : L.head? ≠ some 36 := head_ne hL.all (by decide)
    cases hx : L with
    | nil => exact absurd hx hL.ne
    | cons c t => rw [hx] at h1; exact h1
  obtain ⟨t1, t2⟩ := trim_dollar ac _ h36
  have hm : ((dollar ar (Lib.decDigits (n + 1))).head?.all fun c => !ltr c) = true := by
    cases ar
    · show ((Lib.decDigits (n + 1)).head?.all fun c => !ltr c) = true
      cases hd : Lib.decDigits (n + 1) with
      | nil => rfl
      | cons c t => simp [(dgt_facts (n1 c (by rw [hd]; simp))).2.1]
    · rfl
  obtain ⟨w1, w2⟩ := takeWhile_run hL.all hm
  have h36b : (Lib.decDigits (n + 1)).head? ≠ some 36 := head_ne n1 (by decide)
  obtain ⟨t3, t4⟩ := trim_dollar ar _ h36b
  have hmid : placeMid (dollar ac L ++ dollar ar (Lib.decDigits (n + 1))) = (L, ac, ar, Lib.decDigits (n + 1)) := by
    unfold placeMid
    rw [e1, t1, t2]
    dsimp only
    rw [w1, w2, if_neg hL.ne, if_neg, t3, t4]
    intro h
    cases ar
    · exact n3 h
    · cases h
  obtain ⟨v1, v2⟩ := takeWhile_run (m := []) n1 rfl
  rw [List.append_nil] at v1 v2
  unfold placeF
  rw [hmid]
  dsimp only
  rw [v1, v2]
  simp [good, n2, n3, n4, hL.len]

/-- Letters alone. -/
theorem place_col {L : List UInt8} {m : Nat} (hL : Ltrs L m) (ac : Bool) : placeF (dollar ac L) = (⟨L, [], ac, false⟩, true) := by
  obtain ⟨t1, t2⟩ := trim_dollar ac L (head_ne hL.all (by decide))
  obtain ⟨w1, w2⟩ := takeWhile_run (m := []) hL.all rfl
  rw [List.append_nil] at w1 w2
  have hmid : placeMid (dollar ac L) = (L, ac, false, []) := by
    unfold placeMid
    rw [t1, t2]
    dsimp only
    rw [w1, w2, if_neg hL.ne, if_pos rfl]
  unfold placeF
  rw [hmid]
  simp [good, hL.len, hL.ne, Lib.hasPrefix, List.isPrefixOf]

/-- A number alone. -/
theorem place_row {n : Nat} (hn : n < 1073741824) (ar : Bool) : placeF (dollar ar (Lib.decDigits (n + 1))) = (⟨[], Lib.decDigits (n + 1), false, ar⟩, true) := by
  obtain ⟨n1, n2, n3, n4⟩ := num_facts n hn
  obtain ⟨t1, t2⟩ := trim_dollar ar _ (head_ne (x := 36) n1 (by decide))
  have hm : ((Lib.decDigits (n + 1)).head?.all fun c => !ltr c) = true := by
    cases hd : Lib.decDigits (n + 1) with
    | nil => rfl
    | cons c t => simp [(dgt_facts (n1 c (by rw [hd]; simp))).2.1]
  obtain ⟨w1, w2⟩ := takeWhile_run (p := ltr) (l := []) (m := Lib.decDigits (n + 1)) (fun _ h => by cases h) hm
  rw [List.nil_append] at w1 w2
  have hmid : placeMid (dollar ar (Lib.decDigits (n + 1))) = ([], false, ar, Lib.decDigits (n + 1)) := by
    unfold placeMid
    rw [t1, t2]
    dsimp only
    rw [w1, w2, if_pos rfl]
  obtain ⟨v1, v2⟩ := takeWhile_run (m := []) n1 rfl
  rw [List.append_nil] at v1 v2
  unfold placeF
  rw [hmid]
  dsimp only
  rw [v1, v2]
  simp [good, n2, n3, n4]

theorem column_ltrs {L : List UInt8} {m : Nat} (hL : Ltrs L m) (hm : m < 1073741824) : column L = ((m : Int), 0) := by
  have hl : letters L = true := by
    unfold letters
    rw [List.all_eq_true]
    exact hL.all
  rw [column, if_neg, if_neg, hL.val]
  · simp
  · rw [hL.val]; omega
  · rintro (h | h | h)
    · exact hL.ne h
    · have := hL.len; omega
    · rw [hl] at h; cases h

theorem values_of {L : List UInt8} {m n : Nat} (hL : L = [] ∧ m = 0 ∨ Ltrs L m) (hm : m < 1073741824) (hn : n < 1073741824) {num : List UInt8} (hnum : num = [] ∧ n = 0 ∨ num = Lib.decDigits (n + 1)) (ac ar : Bool) :
    valuesF ⟨L, num, ac, ar⟩ = ((n : Int), (m : Int), 0) := by
  have h1 : (if num = [] then (0 : Int) else (Lib.atoi num).getD 0 - 1) = n := by
    rcases hnum with ⟨rfl, rfl⟩ | rfl
    · rfl
    · rw [if_neg (num_facts n hn).2.2.1, atoi_dec _ (by omega)]
      simp
  have h2 : (if L = [] then ((0 : Int), (0 : Int)) else column L) = ((m : Int), 0) := by
    rcases hL with ⟨rfl, rfl⟩ | hL
    · rfl
    · rw [if_neg hL.ne, column_ltrs hL hm]
  unfold valuesF
  dsimp only
  rw [h1, h2]
  dsimp only
  rw [if_neg (by omega)]

/-! ### Where a text is cut -/
theorem index_none {x : UInt8} : ∀ {l : List UInt8}, (∀ c ∈ l, c ≠ x) → Lib.index l [x] = -1
  | [], _ => rfl
  | b :: t, h => by
    have hb : (x == b) = false := by
      rw [beq_eq_false_iff_ne]; exact fun e => h b (by simp) e.symm
    have ih := index_none (l := t) (fun c hc => h c (by simp [hc]))
    simp [Lib.index, List.isPrefixOf, hb, ih]
theorem index_at {x : UInt8} : ∀ {l m : List UInt8}, (∀ c ∈ l, c ≠ x) → Lib.index (l ++ x :: m) [x] = l.length
  | [], m, _ => by simp [Lib.index, List.isPrefixOf]
  | b :: t, m, h => by
    have hb : (x == b) = false := by
      rw [beq_eq_false_iff_ne]; exact fun e => h b (by simp) e.symm
    have ih := index_at (l := t) (m := m) (fun c hc => h c (by simp [hc]))
    have hne : ((t.length : Int) == -1) = false := by rw [beq_eq_false_iff_ne]; omega
    simp [Lib.index, List.isPrefixOf, hb, ih, hne]
theorem cut_none {x : UInt8} {l : List UInt8} (h : ∀ c ∈ l, c ≠ x) : Lib.cut l [x] = (l, [], false) := by
  unfold Lib.cut; rw [index_none h]; rfl
theorem cut_at {x : UInt8} {l m : List UInt8} (h : ∀ c ∈ l, c ≠ x) : Lib.cut (l ++ x :: m) [x] = (l, m, true) := by
  unfold Lib.cut; rw [index_at h, if_pos (by omega)]
  simp

theorem mem_dollar {b : Bool} {l : List UInt8} {c : UInt8} (h : c ∈ dollar b l) : c = 36 ∨ c ∈ l := by
  cases b
  · exact .inr h
  · rcases List.mem_cons.1 h with h | h
    · exact .inl h
    · exact .inr h
/-- What stands in places: dollars, letters, digits. -/
def plc (c : UInt8) : Bool := c == 36 || ltr c || dgt c
theorem plc_ne {c : UInt8} (h : plc c = true) : c ≠ 39 ∧ c ≠ 35 ∧ c ≠ 58 ∧ c ≠ 33 := by
  unfold plc at h
  rcases Bool.or_eq_true_iff.1 h with h | h
  · rcases Bool.or_eq_true_iff.1 h with h | h
    · obtain rfl : c = 36 := by simpa using h
      decide
    · exact (ltr_facts h).2.2
  · exact (dgt_facts h).2.2
theorem plc_col {L : List UInt8} {m : Nat} (hL : Ltrs L m) (b : Bool) : ∀ c ∈ dollar b L, plc c = true := fun c hc => by
  rcases mem_dollar hc with rfl | h
  · rfl
  · simp [plc, hL.all c h]
theorem plc_row (n : Nat) (b : Bool) : ∀ c ∈ dollar b (Lib.decDigits (n + 1)), plc c = true := fun c hc => by
  rcases mem_dollar hc with rfl | h
  · rfl
  · simp [plc, dec_dgt _ c h]

/-! ### The name of a sheet -/
theorem scanQ_dbl (r : List UInt8) (hr : r.head? ≠ some 39) : ∀ l : List UInt8, scanQ (dbl l ++ 39 :: r) = some (l, r)
  | [] => by
    show scanQ (39 :: r) = _
    exact scanQ_end hr
  | b :: t => by
    have ih := scanQ_dbl r hr t
    by_cases hb : b = 39
    · subst hb
      have e : dbl (39 :: t) ++ 39 :: r = 39 :: 39 :: (dbl t ++ 39 :: r) := by simp [dbl]
      rw [e, scanQ_two, ih]; rfl
    · have e : dbl (b :: t) ++ 39 :: r = b :: (dbl t ++ 39 :: r) := by simp [dbl, hb]
      rw [e, scanQ_other _ hb, ih]; rfl

theorem plain_mem {l : List UInt8} (h : plain l = true) : l ≠ [] ∧ ∀ c ∈ l, c ≠ 33 ∧ c ≠ 39 ∧ c ≠ 35 := by
  unfold plain at h
  rw [Bool.and_eq_true] at h
  obtain ⟨h1, h2⟩ := h
  refine ⟨(by intro e; rw [e] at h1; cases h1), fun c hc => ?_⟩
  obtain ⟨i, hi, rfl⟩ := List.getElem_of_mem hc
  have h3 := List.all_eq_true.1 h2 i (List.mem_range.2 hi)
  rw [show l.getD i 0 = l[i] by simp [List.getD, hi]] at h3
  generalize l[i] = c at h3
  unfold plainI letterI digitI at h3
  refine ⟨?_, ?_, ?_⟩
  all_goals
    rintro rfl
    simp at h3

/-- The name of a sheet is split off a text. -/
theorem sheet_text {sh rest : List UInt8} (hne : rest ≠ []) (hr : ∀ c ∈ rest, plc c = true ∨ c = 58) : sheetF (sheetS sh ++ rest) = (sh, rest, true) := by
  have r39 : rest.head? ≠ some 39 := by
    intro h
    have hm : 39 ∈ rest := List.mem_of_mem_head? h
    rcases hr _ hm with h | h
    · exact (plc_ne h).1 rfl
    · cases h
  have r33 : ∀ c ∈ rest, c ≠ 33 := fun c hc => by
    rcases hr c hc with h | h
    · exact (plc_ne h).2.2.2
    · rw [h]; decide
  unfold sheetS
  by_cases h0 : sh = []
  · rw [if_pos h0, List.nil_append]
    have hp : Lib.hasPrefix rest [39] = false := by
      cases rest with
      | nil => rfl
      | cons c t =>
        have hc : (39 == c) = false := by
          rw [beq_eq_false_iff_ne]; rintro rfl; exact r39 rfl
        simp [Lib.hasPrefix, List.isPrefixOf, hc]
    unfold sheetF
    rw [if_neg (by rw [hp]; simp), cut_none r33, h0]
    simp
  · rw [if_neg h0]
    by_cases hp : plain sh = true
    · rw [if_pos hp]
      obtain ⟨_, hm⟩ := plain_mem hp
      have hpre : Lib.hasPrefix (sh ++ [33] ++ rest) [39] = false := by
        cases sh with
        | nil => exact absurd rfl h0
        | cons c t =>
          have hc : (39 == c) = false := by
            rw [beq_eq_false_iff_ne]; exact fun e => (hm c (by simp)).2.1 e.symm
          simp [Lib.hasPrefix, List.isPrefixOf, hc]
      unfold sheetF
      rw [if_neg (by rw [hpre]; simp), List.append_assoc, show [33] ++ rest = 33 :: rest from rfl, cut_at fun c hc => (hm c hc).1]
      dsimp only
      rw [if_neg, hp]
      rintro (h | h)
      · cases h
      · cases sh with
        | nil => exact h0 rfl
        | cons c t =>
          have := (hm c (by simp)).2.2
          simp at h
          exact this h.1
    · rw [if_neg hp]
      have e : 39 :: (dbl sh ++ [39, 33]) ++ rest = 39 :: (dbl sh ++ 39 :: 33 :: rest) := by simp
      unfold sheetF
      rw [e, if_pos (by rfl)]
      show (match scanQ (dbl sh ++ 39 :: 33 :: rest) with
        | none => ([], [], false)
        | some (b, r) => (b, Lib.trimPrefix r [33], Lib.hasPrefix r [33] && decide (b ≠ []))) = _
      rw [scanQ_dbl (33 :: rest) (by simp) sh]
      simp [Lib.trimPrefix, Lib.hasPrefix, List.isPrefixOf, h0]
end Cr
end Go.Proofs.YtdepdihdjghicaaDoor
