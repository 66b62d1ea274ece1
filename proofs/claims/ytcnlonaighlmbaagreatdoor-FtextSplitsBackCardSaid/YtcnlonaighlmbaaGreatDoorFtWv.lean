/- A region that draws: a chain of operations, and three allocs that come up anywhere between them. -/
import Derived.Test.YtcnlonaighlmbaaGreatDoorHaj
import Derived.Test.YtcnlonaighlmbaaGreatDoorLoc
set_option linter.unusedSimpArgs false
set_option linter.unusedVariables false
namespace Go.Proofs.YtcnlonaighlmbaaGreatDoor
open Go Go.RowKit

/-- Values put into slots. -/
def puts (a : Act) : List (Nat × Value) → Act
  | [] => a
  | (s, v) :: r => puts (a.put (some s) v) r
theorem puts_app (a : Act) (l r : List (Nat × Value)) : puts a (l ++ r) = puts (puts a l) r := by
  induction l generalizing a with
  | nil => rfl
  | cons x l ih =>
    obtain ⟨s, v⟩ := x
    exact ih _
theorem put_same (a : Act) (s : Nat) (x y : Value) : (a.put (some s) x).put (some s) y = a.put (some s) y := by
  simp [Act.put]
theorem put_comm (a : Act) {s t : Nat} (h : s ≠ t) (x y : Value) : (a.put (some s) x).put (some t) y = (a.put (some t) y).put (some s) x := by
  simp only [Act.put]
  rw [Array.setIfInBounds_comm _ _ h]
/-- A block of zeros that an alloc has made. -/
def OKb (T : TypeId) (Z : Array Value) (w0 w : World) (b : Bool) (x : Value) (g : Nat) : Prop := b = true → x = .pointer (some ⟨g, 0, none⟩) ∧ w0.heap.size ≤ g ∧ Blk w g T Z
def OK3 (T : TypeId) (Z : Array Value) (w0 w : World) (b1 b2 b3 : Bool) (x1 x2 x3 : Value) : Prop :=
  ∃ g1 g2 g3, OKb T Z w0 w b1 x1 g1 ∧ OKb T Z w0 w b2 x2 g2 ∧ OKb T Z w0 w b3 x3 g3 ∧ (b1 = true → b2 = true → g1 ≠ g2) ∧ (b1 = true → b3 = true → g1 ≠ g3) ∧ (b2 = true → b3 = true → g2 ≠ g3)
section
variable {T : TypeId} {Z : Array Value} {w0 w w' : World} {b b1 b2 b3 : Bool} {x x1 x2 x3 : Value} {g : Nat}
theorem OKb.later (h : OKb T Z w0 w b x g) (hb : Below w.heap.size w w') : OKb T Z w0 w' b x g := fun e => ⟨(h e).1, (h e).2.1, (h e).2.2.later hb⟩
theorem OK3.later (h : OK3 T Z w0 w b1 b2 b3 x1 x2 x3) (hb : Below w.heap.size w w') : OK3 T Z w0 w' b1 b2 b3 x1 x2 x3 := by
  obtain ⟨g1, g2, g3, h1, h2, h3, h4⟩ := h
  exact ⟨g1, g2, g3, h1.later hb, h2.later hb, h3.later hb, h4⟩
theorem OKb.lt (h : OKb T Z w0 w b x g) (e : b = true) : g < w.heap.size := (h e).2.2.lt
theorem OKb.new (w0 w : World) (hw : w0.heap.size ≤ w.heap.size) : OKb T Z w0 (w.alloc (.cells Z T)) true (.pointer (some ⟨w.heap.size, 0, none⟩)) w.heap.size := fun _ => ⟨rfl, hw, Blk.new w T Z⟩
theorem OK3.new1 (h : OK3 T Z w0 w b1 b2 b3 x1 x2 x3) (hw : w0.heap.size ≤ w.heap.size) : OK3 T Z w0 (w.alloc (.cells Z T)) true b2 b3 (.pointer (some ⟨w.heap.size, 0, none⟩)) x2 x3 := by
  obtain ⟨g1, g2, g3, h1, h2, h3, h4, h5, h6⟩ := h
  have hb : Below w.heap.size w (w.alloc (.cells Z T)) := (Below.refl _ _).alloc (Nat.le_refl _) _
  exact ⟨w.heap.size, g2, g3, OKb.new w0 w hw, h2.later hb, h3.later hb, (fun _ e => by have := h2.lt e; omega), (fun _ e => by have := h3.lt e; omega), h6⟩
theorem OK3.new2 (h : OK3 T Z w0 w b1 b2 b3 x1 x2 x3) (hw : w0.heap.size ≤ w.heap.size) : OK3 T Z w0 (w.alloc (.cells Z T)) b1 true b3 x1 (.pointer (some ⟨w.heap.size, 0, none⟩)) x3 := by
  obtain ⟨g1, g2, g3, h1, h2, h3, h4, h5, h6⟩ := h
  have hb : Below w.heap.size w (w.alloc (.cells Z T)) := (Below.refl _ _).alloc (Nat.le_refl _) _
  exact ⟨g1, w.heap.size, g3, h1.later hb, OKb.new w0 w hw, h3.later hb, (fun e _ => by have := h1.lt e; omega), h5, (fun _ e => by have := h3.lt e; omega)⟩
theorem OK3.new3 (h : OK3 T Z w0 w b1 b2 b3 x1 x2 x3) (hw : w0.heap.size ≤ w.heap.size) : OK3 T Z w0 (w.alloc (.cells Z T)) b1 b2 true x1 x2 (.pointer (some ⟨w.heap.size, 0, none⟩)) := by
  obtain ⟨g1, g2, g3, h1, h2, h3, h4, h5, h6⟩ := h
  have hb : Below w.heap.size w (w.alloc (.cells Z T)) := (Below.refl _ _).alloc (Nat.le_refl _) _
  exact ⟨g1, g2, w.heap.size, h1.later hb, h2.later hb, OKb.new w0 w hw, h4, (fun e _ => by have := h1.lt e; omega), (fun e _ => by have := h2.lt e; omega)⟩
end
/-- How many allocs are left. -/
def unset (b1 b2 b3 : Bool) : Nat := (if b1 then 0 else 1) + (if b2 then 0 else 1) + (if b3 then 0 else 1)
/-- What has come up. -/
def Lb (L : Array Bool) (i1 i2 i3 : Nat) (b1 b2 b3 : Bool) : Array Bool := ((L.setIfInBounds i1 b1).setIfInBounds i2 b2).setIfInBounds i3 b3
section
variable {P : Program} {ops : Array Oper} {Q : Exit → Act → World → Prop} {md : Region.Mode} {S1 : World → Prop}
/-- From here on the region ends well, whichever allocs have come up. -/
def Wv (P : Program) (md : Region.Mode) (ops : Array Oper) (Q : Exit → Act → World → Prop) (S1 : World → Prop) (T : TypeId) (Z : Array Value) (i1 i2 i3 s1 s2 s3 : Nat) (w0 : World) (a0 : Act) (fuel : Nat) (L : Array Bool) {E : Type} (F : E → World → Prop) (vals : E → List (Nat × Value)) : Prop :=
  ∀ b1 b2 b3 x1 x2 x3 e w, F e w → OK3 T Z w0 w b1 b2 b3 x1 x2 x3 → wpAnyG P md ops Q S1 (fun _ => True) 99 (fuel + unset b1 b2 b3) (Lb L i1 i2 i3 b1 b2 b3) (puts a0 (vals e ++ [(s1, x1), (s2, x2), (s3, x3)])) w
/-- What an alloc does. -/
def Alc (P : Program) (ops : Array Oper) (Q : Exit → Act → World → Prop) (T : TypeId) (Z : Array Value) (i s : Nat) : Prop :=
  ∀ (K : Act → World → Prop) (a : Act) (w : World), K (a.put (some s) (.pointer (some ⟨w.heap.size, 0, none⟩))) (w.alloc (.cells Z T)) → wpOp P ops Q i K a w
theorem Lb_set {L : Array Bool} {i1 i2 i3 c : Nat} (h1 : c ≠ i1) (h2 : c ≠ i2) (h3 : c ≠ i3) (b1 b2 b3 : Bool) : (Lb L i1 i2 i3 b1 b2 b3).setIfInBounds c true = Lb (L.setIfInBounds c true) i1 i2 i3 b1 b2 b3 := by
  unfold Lb
  rw [Array.setIfInBounds_comm _ _ h3.symm, Array.setIfInBounds_comm _ _ h2.symm, Array.setIfInBounds_comm _ _ h1.symm]
theorem Lb_1 {L : Array Bool} {i1 i2 i3 : Nat} (h12 : i1 ≠ i2) (h13 : i1 ≠ i3) (b1 b2 b3 : Bool) : (Lb L i1 i2 i3 b1 b2 b3).setIfInBounds i1 true = Lb L i1 i2 i3 true b2 b3 := by
  unfold Lb
  rw [Array.setIfInBounds_comm _ _ h13.symm, Array.setIfInBounds_comm _ _ h12.symm]
  simp
theorem Lb_2 {L : Array Bool} {i1 i2 i3 : Nat} (h23 : i2 ≠ i3) (b1 b2 b3 : Bool) : (Lb L i1 i2 i3 b1 b2 b3).setIfInBounds i2 true = Lb L i1 i2 i3 b1 true b3 := by
  unfold Lb
  rw [Array.setIfInBounds_comm _ _ h23.symm]
  simp
theorem Lb_3 {L : Array Bool} {i1 i2 i3 : Nat} (b1 b2 b3 : Bool) : (Lb L i1 i2 i3 b1 b2 b3).setIfInBounds i3 true = Lb L i1 i2 i3 b1 b2 true := by
  unfold Lb
  simp
theorem puts3 (a0 : Act) (l : List (Nat × Value)) (s1 s2 s3 : Nat) (x1 x2 x3 : Value) : puts a0 (l ++ [(s1, x1), (s2, x2), (s3, x3)]) = (((puts a0 l).put (some s1) x1).put (some s2) x2).put (some s3) x3 := by
  rw [puts_app]
  rfl
theorem puts_1 (a0 : Act) (l : List (Nat × Value)) {s1 s2 s3 : Nat} (h12 : s1 ≠ s2) (h13 : s1 ≠ s3) (x1 x2 x3 y : Value) : (puts a0 (l ++ [(s1, x1), (s2, x2), (s3, x3)])).put (some s1) y = puts a0 (l ++ [(s1, y), (s2, x2), (s3, x3)]) := by
  rw [puts3, puts3, put_comm _ h13.symm, put_comm _ h12.symm, put_same]
theorem puts_2 (a0 : Act) (l : List (Nat × Value)) {s1 s2 s3 : Nat} (h23 : s2 ≠ s3) (x1 x2 x3 y : Value) : (puts a0 (l ++ [(s1, x1), (s2, x2), (s3, x3)])).put (some s2) y = puts a0 (l ++ [(s1, x1), (s2, y), (s3, x3)]) := by
  rw [puts3, puts3, put_comm _ h23.symm, put_same]
theorem puts_3 (a0 : Act) (l : List (Nat × Value)) {s1 s2 s3 : Nat} (x1 x2 x3 y : Value) : (puts a0 (l ++ [(s1, x1), (s2, x2), (s3, x3)])).put (some s3) y = puts a0 (l ++ [(s1, x1), (s2, x2), (s3, y)]) := by
  rw [puts3, puts3, put_same]
/-- The next operation of the chain, or an alloc. -/
theorem weave1 {T : TypeId} {Z : Array Value} (i1 i2 i3 s1 s2 s3 c : Nat) {w0 : World} {a0 : Act} {fuel : Nat} {L : Array Bool} {E E' : Type} {F : E → World → Prop} {vals : E → List (Nat × Value)} (F' : E' → World → Prop) (vals' : E' → List (Nat × Value))
    (hi : (c != i1 && c != i2 && c != i3 && i1 != i2 && i1 != i3 && i2 != i3 && s1 != s2 && s1 != s3 && s2 != s3) = true)
    (hr : ([false, true].all fun b1 => [false, true].all fun b2 => [false, true].all fun b3 => (Region.ready md ops (Lb L i1 i2 i3 b1 b2 b3)).contains c && (Region.ready md ops (Lb L i1 i2 i3 b1 b2 b3)).all fun i => i == c || (i == i1 && !b1) || (i == i2 && !b2) || (i == i3 && !b3)) = true)
    (A1 : Alc P ops Q T Z i1 s1) (A2 : Alc P ops Q T Z i2 s2) (A3 : Alc P ops Q T Z i3 s3)
    (hS : ∀ w, Below w0.heap.size w0 w → S1 w) (hF : ∀ e w, F e w → Below w0.heap.size w0 w) (hF2 : ∀ e w w', F e w → Below w.heap.size w w' → F e w')
    (hF' : ∀ e w, F' e w → Below w0.heap.size w0 w)
    (hc : ∀ (K : Act → World → Prop) x1 x2 x3 e w, F e w → Shut (∀ e' w', F' e' w' → Below w.heap.size w w' → K (puts a0 (vals' e' ++ [(s1, x1), (s2, x2), (s3, x3)])) w') → wpOp P ops Q c K (puts a0 (vals e ++ [(s1, x1), (s2, x2), (s3, x3)])) w)
    (hn : Wv P md ops Q S1 T Z i1 i2 i3 s1 s2 s3 w0 a0 fuel (L.setIfInBounds c true) F' vals') :
    Wv P md ops Q S1 T Z i1 i2 i3 s1 s2 s3 w0 a0 (fuel + 1) L F vals := by
  simp only [Bool.and_eq_true, bne_iff_ne] at hi
  obtain ⟨⟨⟨⟨⟨⟨⟨⟨c1, c2⟩, c3⟩, h12⟩, h13⟩, h23⟩, t12⟩, t13⟩, t23⟩ := hi
  have hr' : ∀ b1 b2 b3, c ∈ Region.ready md ops (Lb L i1 i2 i3 b1 b2 b3) ∧ ∀ i ∈ Region.ready md ops (Lb L i1 i2 i3 b1 b2 b3), i = c ∨ (i = i1 ∧ b1 = false) ∨ (i = i2 ∧ b2 = false) ∨ (i = i3 ∧ b3 = false) := by
    intro b1 b2 b3
    have h1 := List.all_eq_true.1 hr b1 (by cases b1 <;> simp)
    have h2 := List.all_eq_true.1 h1 b2 (by cases b2 <;> simp)
    have h3 := List.all_eq_true.1 h2 b3 (by cases b3 <;> simp)
    rw [Bool.and_eq_true] at h3
    refine ⟨by simpa using h3.1, fun i hi => ?_⟩
    have h4 := List.all_eq_true.1 h3.2 i hi
    simp only [Bool.or_eq_true, Bool.and_eq_true, beq_iff_eq, Bool.not_eq_true'] at h4
    rcases h4 with ((h4 | h4) | h4) | h4
    · exact .inl h4
    · exact .inr (.inl h4)
    · exact .inr (.inr (.inl h4))
    · exact .inr (.inr (.inr h4))
  clear hr
  have key : ∀ m b1 b2 b3 x1 x2 x3 e w, unset b1 b2 b3 = m → F e w → OK3 T Z w0 w b1 b2 b3 x1 x2 x3 → wpAnyG P md ops Q S1 (fun _ => True) 99 (fuel + m + 1) (Lb L i1 i2 i3 b1 b2 b3) (puts a0 (vals e ++ [(s1, x1), (s2, x2), (s3, x3)])) w := by
    intro m
    induction m using Nat.strongRecOn with
    | _ m ih =>
      intro b1 b2 b3 x1 x2 x3 e w hm hf hok
      obtain ⟨g1, g2⟩ := hr' b1 b2 b3
      have hbw := hF e w hf
      have hal : Below w.heap.size w (w.alloc (.cells Z T)) := (Below.refl _ _).alloc (Nat.le_refl _) _
      have hba := hbw.trans (hal.mono hbw.size)
      have hfa := hF2 e w _ hf hal
      refine ⟨fun h0 => (by rw [h0] at g1; cases g1), fun i hi => ?_⟩
      rcases g2 i hi with rfl | ⟨rfl, rfl⟩ | ⟨rfl, rfl⟩ | ⟨rfl, rfl⟩
      · refine hc _ x1 x2 x3 e w hf fun e' w' hf' hb => ⟨⟨hS _ (hF' e' w' hf'), .inr trivial⟩, ?_⟩
        rw [Lb_set c1 c2 c3, ← hm]
        exact hn b1 b2 b3 x1 x2 x3 e' w' hf' (hok.later hb)
      · obtain ⟨m', rfl, hm'⟩ : ∃ m', m = m' + 1 ∧ unset true b2 b3 = m' := ⟨_, by rw [← hm]; simp [unset] <;> omega, rfl⟩
        refine A1 _ _ _ ⟨⟨hS _ hba, .inr trivial⟩, ?_⟩
        rw [Lb_1 h12 h13, puts_1 _ _ t12 t13]
        exact ih m' (Nat.lt_succ_self _) _ _ _ _ _ _ e _ hm' hfa (hok.new1 hbw.size)
      · obtain ⟨m', rfl, hm'⟩ : ∃ m', m = m' + 1 ∧ unset b1 true b3 = m' := ⟨_, by rw [← hm]; simp [unset] <;> omega, rfl⟩
        refine A2 _ _ _ ⟨⟨hS _ hba, .inr trivial⟩, ?_⟩
        rw [Lb_2 h23, puts_2 _ _ t23]
        exact ih m' (Nat.lt_succ_self _) _ _ _ _ _ _ e _ hm' hfa (hok.new2 hbw.size)
      · obtain ⟨m', rfl, hm'⟩ : ∃ m', m = m' + 1 ∧ unset b1 b2 true = m' := ⟨_, by rw [← hm]; simp [unset] <;> omega, rfl⟩
        refine A3 _ _ _ ⟨⟨hS _ hba, .inr trivial⟩, ?_⟩
        rw [Lb_3, puts_3]
        exact ih m' (Nat.lt_succ_self _) _ _ _ _ _ _ e _ hm' hfa (hok.new3 hbw.size)
  intro b1 b2 b3 x1 x2 x3 e w hf hok
  have := key _ b1 b2 b3 x1 x2 x3 e w rfl hf hok
  rwa [show fuel + unset b1 b2 b3 + 1 = fuel + 1 + unset b1 b2 b3 from by omega] at this
/-- The chain has ended: the allocs that are left, then the rest. -/
theorem weave_end {T : TypeId} {Z : Array Value} (i1 i2 i3 s1 s2 s3 : Nat) {w0 : World} {a0 : Act} {fuel : Nat} {L : Array Bool} {E : Type} {F : E → World → Prop} {vals : E → List (Nat × Value)}
    (hi : (i1 != i2 && i1 != i3 && i2 != i3 && s1 != s2 && s1 != s3 && s2 != s3) = true)
    (hr : ([false, true].all fun b1 => [false, true].all fun b2 => [false, true].all fun b3 => (b1 && b2 && b3) || (!(Region.ready md ops (Lb L i1 i2 i3 b1 b2 b3)).isEmpty && (Region.ready md ops (Lb L i1 i2 i3 b1 b2 b3)).all fun i => (i == i1 && !b1) || (i == i2 && !b2) || (i == i3 && !b3))) = true)
    (A1 : Alc P ops Q T Z i1 s1) (A2 : Alc P ops Q T Z i2 s2) (A3 : Alc P ops Q T Z i3 s3)
    (hS : ∀ w, Below w0.heap.size w0 w → S1 w) (hF : ∀ e w, F e w → Below w0.heap.size w0 w) (hF2 : ∀ e w w', F e w → Below w.heap.size w w' → F e w')
    (hn : ∀ x1 x2 x3 e w, F e w → OK3 T Z w0 w true true true x1 x2 x3 → wpAnyG P md ops Q S1 (fun _ => True) 99 fuel (Lb L i1 i2 i3 true true true) (puts a0 (vals e ++ [(s1, x1), (s2, x2), (s3, x3)])) w) :
    Wv P md ops Q S1 T Z i1 i2 i3 s1 s2 s3 w0 a0 fuel L F vals := by
  simp only [Bool.and_eq_true, bne_iff_ne] at hi
  obtain ⟨⟨⟨⟨⟨h12, h13⟩, h23⟩, t12⟩, t13⟩, t23⟩ := hi
  have hr' : ∀ b1 b2 b3, (b1 = true ∧ b2 = true ∧ b3 = true) ∨ (Region.ready md ops (Lb L i1 i2 i3 b1 b2 b3) ≠ [] ∧ ∀ i ∈ Region.ready md ops (Lb L i1 i2 i3 b1 b2 b3), (i = i1 ∧ b1 = false) ∨ (i = i2 ∧ b2 = false) ∨ (i = i3 ∧ b3 = false)) := by
    intro b1 b2 b3
    have h1 := List.all_eq_true.1 hr b1 (by cases b1 <;> simp)
    have h2 := List.all_eq_true.1 h1 b2 (by cases b2 <;> simp)
    have h3 := List.all_eq_true.1 h2 b3 (by cases b3 <;> simp)
    rw [Bool.or_eq_true, Bool.and_eq_true, Bool.and_eq_true, Bool.and_eq_true] at h3
    rcases h3 with h3 | h3
    · exact .inl ⟨h3.1.1, h3.1.2, h3.2⟩
    · refine .inr ⟨fun h0 => (by have := h3.1; rw [h0] at this; simp at this), fun i hi => ?_⟩
      have h4 := List.all_eq_true.1 h3.2 i hi
      simp only [Bool.or_eq_true, Bool.and_eq_true, beq_iff_eq, Bool.not_eq_true'] at h4
      rcases h4 with (h4 | h4) | h4
      · exact .inl h4
      · exact .inr (.inl h4)
      · exact .inr (.inr h4)
  clear hr
  have key : ∀ m b1 b2 b3 x1 x2 x3 e w, unset b1 b2 b3 = m → F e w → OK3 T Z w0 w b1 b2 b3 x1 x2 x3 → wpAnyG P md ops Q S1 (fun _ => True) 99 (fuel + m) (Lb L i1 i2 i3 b1 b2 b3) (puts a0 (vals e ++ [(s1, x1), (s2, x2), (s3, x3)])) w := by
    intro m
    induction m with
    | zero =>
      intro b1 b2 b3 x1 x2 x3 e w hm hf hok
      obtain ⟨rfl, rfl, rfl⟩ : b1 = true ∧ b2 = true ∧ b3 = true := by
        cases b1 <;> cases b2 <;> cases b3 <;> first | exact ⟨rfl, rfl, rfl⟩ | (simp [unset] at hm)
      exact hn x1 x2 x3 e w hf hok
    | succ m ih =>
      intro b1 b2 b3 x1 x2 x3 e w hm hf hok
      have hbw := hF e w hf
      have hal : Below w.heap.size w (w.alloc (.cells Z T)) := (Below.refl _ _).alloc (Nat.le_refl _) _
      have hba := hbw.trans (hal.mono hbw.size)
      have hfa := hF2 e w _ hf hal
      rcases hr' b1 b2 b3 with ⟨rfl, rfl, rfl⟩ | ⟨g1, g2⟩
      · simp [unset] at hm
      refine ⟨fun h0 => absurd h0 g1, fun i hi => ?_⟩
      rcases g2 i hi with ⟨rfl, rfl⟩ | ⟨rfl, rfl⟩ | ⟨rfl, rfl⟩
      · refine A1 _ _ _ ⟨⟨hS _ hba, .inr trivial⟩, ?_⟩
        rw [Lb_1 h12 h13, puts_1 _ _ t12 t13]
        exact ih _ _ _ _ _ _ e _ (by simp [unset] at hm ⊢ <;> omega) hfa (hok.new1 hbw.size)
      · refine A2 _ _ _ ⟨⟨hS _ hba, .inr trivial⟩, ?_⟩
        rw [Lb_2 h23, puts_2 _ _ t23]
        exact ih _ _ _ _ _ _ e _ (by simp [unset] at hm ⊢ <;> omega) hfa (hok.new2 hbw.size)
      · refine A3 _ _ _ ⟨⟨hS _ hba, .inr trivial⟩, ?_⟩
        rw [Lb_3, puts_3]
        exact ih _ _ _ _ _ _ e _ (by simp [unset] at hm ⊢ <;> omega) hfa (hok.new3 hbw.size)
  intro b1 b2 b3 x1 x2 x3 e w hf hok
  exact key _ b1 b2 b3 x1 x2 x3 e w rfl hf hok
/-- The beginning of the chain. -/
theorem weave0 {T : TypeId} {Z : Array Value} (i1 i2 i3 s1 s2 s3 : Nat) (x1 x2 x3 : Value) {w0 w : World} {a : Act} (fuel : Nat) {L : Array Bool} {E : Type} (F : E → World → Prop) (vals : E → List (Nat × Value)) (e : E) (hf : F e w)
    (hL : Lb L i1 i2 i3 false false false = L) (ha : puts a (vals e ++ [(s1, x1), (s2, x2), (s3, x3)]) = a)
    (A1 : Alc P ops Q T Z i1 s1) (A2 : Alc P ops Q T Z i2 s2) (A3 : Alc P ops Q T Z i3 s3) (hS : ∀ w, Below w0.heap.size w0 w → S1 w)
    (h : Alc P ops Q T Z i1 s1 → Alc P ops Q T Z i2 s2 → Alc P ops Q T Z i3 s3 → (∀ w, Below w0.heap.size w0 w → S1 w) → Wv P md ops Q S1 T Z i1 i2 i3 s1 s2 s3 w0 a fuel L F vals) : wpAnyG P md ops Q S1 (fun _ => True) 99 (fuel + 3) L a w := by
  have := h A1 A2 A3 hS false false false x1 x2 x3 e w hf ⟨0, 0, 0, (fun e => by cases e), (fun e => by cases e), (fun e => by cases e), (fun e => by cases e), (fun e => by cases e), (fun e => by cases e)⟩
  rw [hL, ha] at this
  exact this
theorem nine_far {w : World} {g g' : Nat} {t' : TypeId} {cs : Array Value} (h : Blk w g' t' cs) (hne : g' ≠ g) (y0 y1 y2 y3 y4 y5 y6 y7 y8 : Value) : Blk (((((((((w.setCell ⟨g, 0, none⟩ y0).setCell ⟨g, 1, none⟩ y1).setCell ⟨g, 2, none⟩ y2).setCell ⟨g, 3, none⟩ y3).setCell ⟨g, 4, none⟩ y4).setCell ⟨g, 5, none⟩ y5).setCell ⟨g, 6, none⟩ y6).setCell ⟨g, 7, none⟩ y7).setCell ⟨g, 8, none⟩ y8) g' t' cs := ((((((((h.far hne y0).far hne y1).far hne y2).far hne y3).far hne y4).far hne y5).far hne y6).far hne y7).far hne y8
end
end Go.Proofs.YtcnlonaighlmbaaGreatDoor
