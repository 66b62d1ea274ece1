/- Changes of rows: plain functions and laws. -/
import Derived.Test.YtjgojbkmeggmhaaDoorRows
namespace Go.Proofs.YtjgojbkmeggmhaaDoor.Ax

/-- A step: its kind (0 keep, 1 add, 2 cut) and its number. -/
abbrev Step := Int × Int

/-! Check. -/
def badF (prev : Option Int) (k : Int) : Bool := match prev with
  | none => false
  | some j => j == k || (j == 2 && k == 1)
def ck : Option Int → Int → Int → List Step → Int
  | _, b, a, [] => if 2147483647 < b ∨ 2147483647 < a then 3 else 0
  | pv, b, a, (k, n) :: t =>
    if k < 0 ∨ 2 < k then 8 else if n < 1 ∨ 2147483647 < n then 2 else if badF pv k = true then 5
    else ck (some k) (if k ≠ 1 then min (b + n) 2147483648 else b) (if k ≠ 2 then min (a + n) 2147483648 else a) t
def check (l : List Step) : Int := ck none 0 0 l
def bef : List Step → Int
  | [] => 0
  | (k, n) :: t => (if k ≠ 1 then n else 0) + bef t
def aft : List Step → Int
  | [] => 0
  | (k, n) :: t => (if k ≠ 2 then n else 0) + aft t
def okS (s : Step) : Prop := 0 ≤ s.1 ∧ s.1 ≤ 2 ∧ 1 ≤ s.2 ∧ s.2 ≤ 2147483647
def Form : Option Int → List Step → Prop
  | _, [] => True
  | pv, (k, _) :: t => badF pv k = false ∧ Form (some k) t

theorem bef_nonneg : ∀ {l : List Step}, (∀ s ∈ l, okS s) → 0 ≤ bef l
  | [], _ => by simp [bef]
  | (k, n) :: t, h => by
    have h1 := bef_nonneg (l := t) fun s hs => h s (List.mem_cons_of_mem _ hs)
    have h2 := (h (k, n) (List.mem_cons_self ..)).2.2.1
    simp only [bef]
    split <;> omega
theorem aft_nonneg : ∀ {l : List Step}, (∀ s ∈ l, okS s) → 0 ≤ aft l
  | [], _ => by simp [aft]
  | (k, n) :: t, h => by
    have h1 := aft_nonneg (l := t) fun s hs => h s (List.mem_cons_of_mem _ hs)
    have h2 := (h (k, n) (List.mem_cons_self ..)).2.2.1
    simp only [aft]
    split <;> omega
theorem ck_zero : ∀ (l : List Step) (pv : Option Int) (b a : Int), ck pv b a l = 0 → (∀ s ∈ l, okS s) ∧ Form pv l ∧ b + bef l ≤ 2147483647 ∧ a + aft l ≤ 2147483647
  | [], pv, b, a, h => by
    simp only [ck] at h
    split at h
    · cases h
    · rename_i hh
      refine ⟨fun s hs => (by cases hs), trivial, ?_, ?_⟩ <;> simp only [bef, aft] <;> omega
  | (k, n) :: t, pv, b, a, h => by
    simp only [ck] at h
    split at h
    · cases h
    split at h
    · cases h
    split at h
    · cases h
    rename_i h1 h2 h3
    obtain ⟨g1, g2, g3, g4⟩ := ck_zero t _ _ _ h
    have p1 := bef_nonneg g1
    have p2 := aft_nonneg g1
    refine ⟨fun s hs => ?_, ⟨by simpa using h3, g2⟩, ?_, ?_⟩
    · rcases List.mem_cons.1 hs with rfl | hs
      · exact ⟨by dsimp only; omega, by dsimp only; omega, by dsimp only; omega, by dsimp only; omega⟩
      · exact g1 s hs
    · simp only [bef]
      split at g3 <;> rename_i hk
      · rw [if_pos hk]; omega
      · rw [if_neg hk]; omega
    · simp only [aft]
      split at g4 <;> rename_i hk
      · rw [if_pos hk]; omega
      · rw [if_neg hk]; omega
theorem ck_of : ∀ (l : List Step) (pv : Option Int) (b a : Int), (∀ s ∈ l, okS s) → Form pv l → b + bef l ≤ 2147483647 → a + aft l ≤ 2147483647 → ck pv b a l = 0
  | [], pv, b, a, _, _, h3, h4 => by
    simp only [bef, aft] at h3 h4
    simp only [ck]
    rw [if_neg (by omega)]
  | (k, n) :: t, pv, b, a, h1, h2, h3, h4 => by
    have o := h1 (k, n) (List.mem_cons_self ..)
    have g1 : ∀ s ∈ t, okS s := fun s hs => h1 s (List.mem_cons_of_mem _ hs)
    have p1 := bef_nonneg g1
    have p2 := aft_nonneg g1
    obtain ⟨o1, o2, o3, o4⟩ := o
    dsimp only at o1 o2 o3 o4
    simp only [bef, aft] at h3 h4
    simp only [ck]
    rw [if_neg (by omega), if_neg (by omega), if_neg (by rw [h2.1]; simp)]
    refine ck_of t _ _ _ g1 h2.2 ?_ ?_
    · split at h3 <;> rename_i hk
      · rw [if_pos hk]; omega
      · rw [if_neg hk]; omega
    · split at h4 <;> rename_i hk
      · rw [if_pos hk]; omega
      · rw [if_neg hk]; omega

/-! Where a row goes. -/
inductive Res where
  | kept (y : Int)
  | gone
  | past (p now : Int)
def Res.up (s : Int) : Res → Res
  | .kept y => .kept (y + s)
  | .gone => .gone
  | .past p now => .past p (now + s)
def R : List Step → Int → Res
  | [], p => .past p 0
  | (k, n) :: t, p =>
    if k = 0 then (if p < n then .kept p else (R t (p - n)).up n)
    else if k = 1 then (R t p).up n
    else if p < n then .gone else R t (p - n)
def Res.fin : Res → Option Int
  | .kept y => some y
  | .gone => none
  | .past p now => some (p + now)
/-- Where a row is after a change. -/
def P (l : List Step) (p : Int) : Option Int := (R l p).fin
theorem up_up (a b : Int) (r : Res) : (r.up a).up b = r.up (a + b) := by cases r <;> simp [Res.up, Int.add_assoc]
theorem up_zero (r : Res) : r.up 0 = r := by cases r <;> simp [Res.up]
def Res.bind (r : Res) (f : Int → Res) : Res := match r with
  | .past p now => (f p).up now
  | r => r
theorem bind_up (r : Res) (s : Int) (f : Int → Res) : (r.up s).bind f = (r.bind f).up s := by
  cases r with
  | kept y => rfl
  | gone => rfl
  | past p now => exact (up_up now s (f p)).symm
theorem R_append : ∀ (x y : List Step) (p : Int), R (x ++ y) p = (R x p).bind (R y)
  | [], y, p => by simp [R, Res.bind, up_zero]
  | (k, n) :: t, y, p => by
    rw [List.cons_append]
    simp only [R]
    split
    · split
      · rfl
      · rw [R_append t y, bind_up]
    · split
      · rw [R_append t y, bind_up]
      · split
        · rfl
        · rw [R_append t y]
theorem R_past : ∀ (l : List Step) (p p' now : Int), 0 ≤ p → R l p = .past p' now → 0 ≤ p'
  | [], p, p', now, hp, h => by simp only [R] at h; cases h; exact hp
  | (k, n) :: t, p, p', now, hp, h => by
    simp only [R] at h
    have up_past : ∀ {r : Res} {s a b : Int}, r.up s = .past a b → ∃ c, r = .past a c := fun {r s a b} h => by
      cases r <;> simp [Res.up] at h
      exact ⟨_, by rw [h.1]⟩
    split at h
    · split at h
      · cases h
      · obtain ⟨c, hc⟩ := up_past h
        exact R_past t _ _ _ (by omega) hc
    · split at h
      · obtain ⟨c, hc⟩ := up_past h
        exact R_past t _ _ _ hp hc
      · split at h
        · cases h
        · exact R_past t _ _ _ (by omega) h
theorem bind_congr {r : Res} {f g : Int → Res} (h : ∀ p now, r = .past p now → f p = g p) : r.bind f = r.bind g := by
  cases r with
  | kept y => rfl
  | gone => rfl
  | past p now => simp only [Res.bind]; rw [h p now rfl]
/-- Two changes that send every row to the same place. -/
def Same (x y : List Step) : Prop := ∀ p, 0 ≤ p → R x p = R y p
theorem Same.pre {x y : List Step} (h : Same x y) (z : List Step) : Same (z ++ x) (z ++ y) := fun p hp => by rw [R_append, R_append]; exact bind_congr fun p' now e => h p' (R_past _ _ _ _ hp e)
theorem Same.post {x y : List Step} (h : Same x y) (z : List Step) : Same (x ++ z) (y ++ z) := fun p hp => by rw [R_append, R_append, h p hp]
theorem same_refl (x : List Step) : Same x x := fun _ _ => rfl
theorem Same.symm {x y : List Step} (h : Same x y) : Same y x := fun p hp => (h p hp).symm
theorem Same.trans {x y z : List Step} (h : Same x y) (k : Same y z) : Same x z := fun p hp => (h p hp).trans (k p hp)
theorem add_zero' : Same [(1, 0)] [] := fun p _ => by simp [R, up_zero]
theorem add_add (a b : Int) : Same [(1, a), (1, b)] [(1, a + b)] := fun p _ => by
  simp only [R]
  simp [up_up, Int.add_comm]
theorem R_keep (n : Int) (t : List Step) (p : Int) : R ((0, n) :: t) p = if p < n then .kept p else (R t (p - n)).up n := rfl
theorem R_add (n : Int) (t : List Step) (p : Int) : R ((1, n) :: t) p = (R t p).up n := rfl
theorem R_cut (n : Int) (t : List Step) (p : Int) : R ((2, n) :: t) p = if p < n then .gone else R t (p - n) := rfl
theorem R_nil (p : Int) : R [] p = .past p 0 := rfl
theorem cut_cut {a b : Int} (_ha : 0 ≤ a) (hb : 0 ≤ b) : Same [(2, a), (2, b)] [(2, a + b)] := fun p _ => by
  rw [R_cut, R_cut, R_cut]
  by_cases h1 : p < a
  · rw [if_pos h1, if_pos (by omega)]
  · rw [if_neg h1]
    by_cases h2 : p - a < b
    · rw [if_pos h2, if_pos (by omega)]
    · rw [if_neg h2, if_neg (by omega), show p - a - b = p - (a + b) by omega]
theorem cut_add (a b : Int) : Same [(2, a), (1, b)] [(1, b), (2, a)] := fun p _ => by
  rw [R_cut, R_add, R_add, R_cut]
  by_cases h1 : p < a
  · rw [if_pos h1, if_pos h1]; rfl
  · rw [if_neg h1, if_neg h1]
theorem keep_keep {a b : Int} (_ha : 0 ≤ a) (hb : 0 ≤ b) : Same [(0, a), (0, b)] [(0, a + b)] := fun p _ => by
  rw [R_keep, R_keep, R_keep]
  by_cases h1 : p < a
  · rw [if_pos h1, if_pos (by omega)]
  · rw [if_neg h1]
    by_cases h2 : p - a < b
    · rw [if_pos h2, if_pos (by omega)]
      show Res.kept _ = _
      congr 1; omega
    · rw [if_neg h2, if_neg (by omega), up_up, show p - a - b = p - (a + b) by omega, Int.add_comm b a]

/-! The writer. -/
structure Wr where
  out : List Step
  add : Int
  cut : Int
def adds (n : Int) : List Step := if 0 < n then [(1, n)] else []
def cuts (n : Int) : List Step := if 0 < n then [(2, n)] else []
def Wr.flush (w : Wr) : Wr := ⟨w.out ++ adds w.add ++ cuts w.cut, 0, 0⟩
/-- A kept run joins a kept run before it. -/
def joinK (l : List Step) (n : Int) : List Step := match l.getLast? with
  | some (k, m) => if k = 0 then l.dropLast ++ [(0, m + n)] else l ++ [(0, n)]
  | none => l ++ [(0, n)]
def Wr.put (w : Wr) (k n : Int) : Wr :=
  if n = 0 then w else if k = 1 then ⟨w.out, w.add + n, w.cut⟩ else if k = 2 then ⟨w.out, w.add, w.cut + n⟩
  else ⟨joinK w.flush.out n, 0, 0⟩
def Wr.all (w : Wr) : List Step := w.flush.out
def puts (w : Wr) (l : List Step) : Wr := l.foldl (fun w s => w.put s.1 s.2) w
def Wr.ok (w : Wr) : Prop := 0 ≤ w.add ∧ 0 ≤ w.cut ∧ ∀ s ∈ w.out, 1 ≤ s.2
theorem adds_same {n : Int} (h : 0 ≤ n) : Same (adds n) [(1, n)] := by
  unfold adds
  split
  · exact same_refl _
  · obtain rfl : n = 0 := by omega
    exact add_zero'.symm
theorem cuts_same {n : Int} (h : 0 ≤ n) : Same (cuts n) [(2, n)] := fun p hp => by
  unfold cuts
  split
  · rfl
  · obtain rfl : n = 0 := by omega
    rw [R_cut, if_neg (by omega), Int.sub_zero]
theorem all_same {w : Wr} (h : w.ok) : Same w.all (w.out ++ [(1, w.add), (2, w.cut)]) := by
  unfold Wr.all Wr.flush
  dsimp only
  rw [List.append_assoc]
  refine Same.pre ?_ _
  exact Same.trans ((adds_same h.1).post _) ((cuts_same h.2.1).pre [(1, w.add)])
theorem joinK_same (l : List Step) {n : Int} (hl : ∀ s ∈ l, 1 ≤ s.2) (hn : 0 ≤ n) : Same (joinK l n) (l ++ [(0, n)]) := by
  unfold joinK
  split
  · rename_i k m hk
    split
    · rename_i h0
      subst h0
      obtain ⟨ys, rfl⟩ : ∃ ys, l = ys ++ [(0, m)] := by
        rw [List.getLast?_eq_some_iff] at hk
        exact hk
      rw [List.dropLast_concat, List.append_assoc]
      have hm : 1 ≤ m := hl (0, m) (by simp)
      exact Same.pre (keep_keep (by omega) hn).symm _
    · exact same_refl _
  · exact same_refl _
theorem mem_joinK {l : List Step} {n : Int} (hl : ∀ s ∈ l, 1 ≤ s.2) (hn : 1 ≤ n) : ∀ s ∈ joinK l n, 1 ≤ s.2 := by
  unfold joinK
  split
  · rename_i k m hk
    split
    · intro s hs
      rcases List.mem_append.1 hs with hs | hs
      · exact hl s ((List.dropLast_sublist l).subset hs)
      · rw [List.mem_singleton.1 hs]
        have := hl (k, m) (List.mem_of_getLast? hk)
        dsimp only at this ⊢
        omega
    · intro s hs
      rcases List.mem_append.1 hs with hs | hs
      · exact hl s hs
      · rw [List.mem_singleton.1 hs]; exact hn
  · intro s hs
    rcases List.mem_append.1 hs with hs | hs
    · exact hl s hs
    · rw [List.mem_singleton.1 hs]; exact hn
theorem flush_mem {w : Wr} (h : w.ok) : ∀ s ∈ w.flush.out, 1 ≤ s.2 := by
  intro s hs
  unfold Wr.flush at hs
  dsimp only at hs
  rcases List.mem_append.1 hs with hs | hs
  · rcases List.mem_append.1 hs with hs | hs
    · exact h.2.2 s hs
    · unfold adds at hs
      split at hs
      · rw [List.mem_singleton.1 hs]; dsimp only; omega
      · cases hs
  · unfold cuts at hs
    split at hs
    · rw [List.mem_singleton.1 hs]; dsimp only; omega
    · cases hs
theorem put_ok {w : Wr} (h : w.ok) (k : Int) {n : Int} (hn : 0 ≤ n) : (w.put k n).ok := by
  unfold Wr.put
  split
  · exact h
  split
  · exact ⟨by have := h.1; dsimp only; omega, h.2.1, h.2.2⟩
  split
  · exact ⟨h.1, by have := h.2.1; dsimp only; omega, h.2.2⟩
  · exact ⟨Int.le_refl _, Int.le_refl _, mem_joinK (flush_mem h) (by omega)⟩
theorem put_same {w : Wr} (h : w.ok) {k n : Int} (hk : 0 ≤ k ∧ k ≤ 2) (hn : 0 ≤ n) : Same (w.put k n).all (w.all ++ [(k, n)]) := by
  have h1 := all_same h
  have hw := all_same (put_ok h k hn)
  refine hw.trans (Same.trans ?_ (h1.post [(k, n)]).symm)
  unfold Wr.put
  split
  · rename_i h0
    subst h0
    rw [List.append_assoc]
    refine Same.pre ?_ _
    have e : Same [(k, 0)] [] := fun p hpp => by
      have : k = 0 ∨ k = 1 ∨ k = 2 := by omega
      rcases this with rfl | rfl | rfl
      · rw [R_keep, if_neg (by omega), R_nil, R_nil, Int.sub_zero]; rfl
      · rw [R_add, R_nil]; rfl
      · rw [R_cut, if_neg (by omega), Int.sub_zero]
    have := e.pre [(1, w.add), (2, w.cut)]
    rw [List.append_nil] at this
    exact this.symm
  split
  · rename_i h0
    subst h0
    rw [List.append_assoc]
    refine Same.pre ?_ _
    refine Same.trans ((add_add w.add n).symm.post [(2, w.cut)]) ?_
    exact (cut_add w.cut n).symm.pre [(1, w.add)]
  split
  · rename_i h0
    subst h0
    rw [List.append_assoc]
    refine Same.pre ?_ _
    exact ((cut_cut h.2.1 hn).symm).pre [(1, w.add)]
  · obtain rfl : k = 0 := by omega
    dsimp only
    have h2 := joinK_same w.flush.out (flush_mem h) hn
    have e0 : Same [(1, (0 : Int)), (2, (0 : Int))] [] := fun p hp => by
      rw [R_add, R_cut, if_neg (by omega), R_nil, R_nil, Int.sub_zero]; rfl
    have h3 := e0.pre (joinK w.flush.out n)
    rw [List.append_nil] at h3
    exact h3.trans (h2.trans ((all_same h).post [(0, n)]))
theorem puts_same {w : Wr} (h : w.ok) : ∀ (l : List Step), (∀ s ∈ l, (0 ≤ s.1 ∧ s.1 ≤ 2) ∧ 0 ≤ s.2) → (puts w l).ok ∧ Same (puts w l).all (w.all ++ l) := by
  intro l
  induction l generalizing w with
  | nil => intro _; rw [List.append_nil]; exact ⟨h, same_refl _⟩
  | cons s t ih =>
    intro hl
    have hs := hl s (List.mem_cons_self ..)
    have h1 := put_ok h s.1 hs.2
    obtain ⟨g1, g2⟩ := ih h1 fun x hx => hl x (List.mem_cons_of_mem _ hx)
    refine ⟨g1, g2.trans ?_⟩
    have := (put_same h hs.1 hs.2).post t
    rw [List.append_assoc] at this
    exact this
def Wr.zero : Wr := ⟨[], 0, 0⟩
theorem zero_ok : Wr.zero.ok := ⟨Int.le_refl _, Int.le_refl _, fun s hs => by cases hs⟩
theorem puts_zero (l : List Step) (h : ∀ s ∈ l, (0 ≤ s.1 ∧ s.1 ≤ 2) ∧ 0 ≤ s.2) : Same (puts Wr.zero l).all l := (puts_same zero_ok l h).2
end Go.Proofs.YtjgojbkmeggmhaaDoor.Ax
