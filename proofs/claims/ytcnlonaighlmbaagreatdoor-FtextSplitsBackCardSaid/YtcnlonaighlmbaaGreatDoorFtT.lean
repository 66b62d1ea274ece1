/- ftext.table: the map of all functions; what it has for a name. -/
import Derived.Test.YtcnlonaighlmbaaGreatDoorFkM
import Derived.Test.YtcnlonaighlmbaaGreatDoorFtA
import Derived.Test.YtcnlonaighlmbaaGreatDoorVbA
import Derived.Laws.EntriesVeiled
set_option linter.unusedSimpArgs false
set_option linter.unusedVariables false
namespace Go.Proofs.YtcnlonaighlmbaaGreatDoor
open Go.RowKit Go.MapKept

/-- A function of an entry: its number, and the function that it has captured. -/
abbrev FV := Nat × Option Nat
/-- A function value of an entry lies at p. -/
def FB (W : World) (p : Nat) : FV → Prop
  | (f, none) => Blk W p 89 #[.func (.func f) #[] #[]]
  | (f, some g) => ∃ q, Blk W p 89 #[.func (.func f) #[] #[.pointer (some ⟨q, 0, none⟩)]] ∧ Blk W q 68 #[.func (.func g) #[] #[]]
def FBn (W : World) (b p : Nat) : FV → Prop
  | (f, none) => p ≠ b ∧ Blk W p 89 #[.func (.func f) #[] #[]]
  | (f, some g) => p ≠ b ∧ ∃ q, q ≠ b ∧ Blk W p 89 #[.func (.func f) #[] #[.pointer (some ⟨q, 0, none⟩)]] ∧ Blk W q 68 #[.func (.func g) #[] #[]]
theorem FBn.fb {W : World} {b p : Nat} : ∀ {f : FV}, FBn W b p f → FB W p f
  | (_, none), h => h.2
  | (_, some _), ⟨_, q, _, h⟩ => ⟨q, h⟩
theorem FBn.imp {W W' : World} {b : Nat} (h : ∀ p t cs, p ≠ b → Blk W p t cs → Blk W' p t cs) {p : Nat} : ∀ {f : FV}, FBn W b p f → FBn W' b p f
  | (_, none), ⟨h1, h2⟩ => ⟨h1, h _ _ _ h1 h2⟩
  | (_, some _), ⟨h1, q, h2, h3, h4⟩ => ⟨h1, q, h2, h _ _ _ h1 h3, h _ _ _ h2 h4⟩
theorem FB.later {W W' : World} {p : Nat} {f : FV} (h : FB W p f) (hb : Below W.heap.size W W') : FB W' p f := by
  obtain ⟨f, g⟩ := f
  cases g with
  | none => exact Blk.later h hb
  | some g =>
    obtain ⟨q, h1, h2⟩ := h
    exact ⟨q, Blk.later h1 hb, Blk.later h2 hb⟩
theorem FB.alloc {W : World} {p : Nat} {f : FV} (h : FB W p f) (o : Obj) : FB (W.alloc o) p f := h.later (below_al W o)
/-- An entry of the table, as a value. -/
abbrev entV (l m : Int) (k : ByteArray) (p : Nat) : Value := .agg #[.int .i64 l, .int .i64 m, .string k, .func (.func 105) #[] #[.pointer (some ⟨p, 0, none⟩)]]
theorem entry_any (l m : Int) (k : ByteArray) (fn : Fn) (fa fc : Array Value) (w : World) : Calls Tryz.prog 50 #[.int .i64 l, .int .i64 m, .string k, .func fn fa fc] w fun e w' => e = .returned (entV l m k w.heap.size) ∧ Blk w' w.heap.size 89 #[.func fn fa fc] ∧ Below w.heap.size w w' := by
  have hmf : ∀ (fn : Fn) (first cap : Array Value) (w : World), (Instr.makeFunc fn first cap).run Tryz.prog w = .ok (.func fn first cap) w := fun _ _ _ _ => rfl
  have HL := Lib.hid (((Loc.start w).alloc' rfl 89 #[.func fn fa fc]).alloc' (g := w.heap.size + 1) (by simp) 81 #[.int .i64 l, .int .i64 m, .string k, .func (.func 105) #[] #[.pointer (some ⟨w.heap.size, 0, none⟩)]])
  go_enter Tryz.func50, Tryz.ntmps50
  go_wp2_with fail
  have hb := HL.out.blk (g := w.heap.size + 1) (List.mem_cons_self ..)
  have q0 := hb.cell 0
  have q1 := hb.cell 1
  have q2 := hb.cell 2
  have q3 := hb.cell 3
  simp only [List.getElem?_toArray, List.getElem?_cons_succ, List.getElem?_cons_zero] at q0 q1 q2 q3
  refine bodyPost_ret (v := entV l m k w.heap.size) (by simp [results, Tryz.results50, go_sem, q0, q1, q2, q3]) rfl ⟨rfl, HL.out.blk (g := w.heap.size) (List.mem_cons_of_mem _ (List.mem_cons_self ..)), HL.out.bel⟩
/-- An entry is made: what all four makers answer. -/
def EntR (w : World) (l m : Int) (k : ByteArray) (f : FV) (e : Ending) (w' : World) : Prop := ∃ p, e = .returned (entV l m k p) ∧ (∀ b, b < w.heap.size → FBn w' b p f) ∧ Below w.heap.size w w'
theorem entry_p (l m : Int) (k : ByteArray) (f : Nat) (w : World) : Calls Tryz.prog 50 #[.int .i64 l, .int .i64 m, .string k, .func (.func f) #[] #[]] w (EntR w l m k (f, none)) :=
  (entry_any l m k _ _ _ w).mono fun e w' h => ⟨_, h.1, fun b hb => ⟨by omega, h.2.1⟩, h.2.2⟩
section
variable {w w0 : World} {g B : Nat} {t : TypeId} {x0 x1 x2 x3 : Value}
theorem four_f (h : Blk w g t #[x0, x1, x2, x3]) : w.cell? ⟨g, 0, none⟩ = some x0 ∧ w.cell? ⟨g, 1, none⟩ = some x1 ∧ w.cell? ⟨g, 2, none⟩ = some x2 ∧ w.cell? ⟨g, 3, none⟩ = some x3 ∧ w.frozen? ⟨g, 0, none⟩ = false ∧ w.frozen? ⟨g, 1, none⟩ = false ∧ w.frozen? ⟨g, 2, none⟩ = false ∧ w.frozen? ⟨g, 3, none⟩ = false :=
  ⟨h.cell 0, h.cell 1, h.cell 2, h.cell 3, h.frozen 0, h.frozen 1, h.frozen 2, h.frozen 3⟩
theorem four_set (h : Blk w g t #[x0, x1, x2, x3]) (y0 y1 y2 y3 : Value) : Blk ((((w.setCell ⟨g, 0, none⟩ y0).setCell ⟨g, 1, none⟩ y1).setCell ⟨g, 2, none⟩ y2).setCell ⟨g, 3, none⟩ y3) g t #[y0, y1, y2, y3] := by
  have h0 : Blk (w.setCell ⟨g, 0, none⟩ y0) g t #[y0, x1, x2, x3] := by simpa using h.set_ 0 y0
  have h1 : Blk ((w.setCell ⟨g, 0, none⟩ y0).setCell ⟨g, 1, none⟩ y1) g t #[y0, y1, x2, x3] := by simpa using h0.set_ 1 y1
  have h2 : Blk (((w.setCell ⟨g, 0, none⟩ y0).setCell ⟨g, 1, none⟩ y1).setCell ⟨g, 2, none⟩ y2) g t #[y0, y1, y2, x3] := by simpa using h1.set_ 2 y2
  simpa using h2.set_ 3 y3
theorem four_far {g' : Nat} {t' : TypeId} {cs : Array Value} (h : Blk w g' t' cs) (hne : g' ≠ g) (y0 y1 y2 y3 : Value) : Blk ((((w.setCell ⟨g, 0, none⟩ y0).setCell ⟨g, 1, none⟩ y1).setCell ⟨g, 2, none⟩ y2).setCell ⟨g, 3, none⟩ y3) g' t' cs := (((h.far hne y0).far hne y1).far hne y2).far hne y3
theorem below_four (h : Below B w0 w) (hg : B ≤ g) (y0 y1 y2 y3 : Value) : Below B w0 ((((w.setCell ⟨g, 0, none⟩ y0).setCell ⟨g, 1, none⟩ y1).setCell ⟨g, 2, none⟩ y2).setCell ⟨g, 3, none⟩ y3) :=
  (((h.setCell (p := ⟨g, 0, none⟩) hg y0).setCell (p := ⟨g, 1, none⟩) hg y1).setCell (p := ⟨g, 2, none⟩) hg y2).setCell (p := ⟨g, 3, none⟩) hg y3
end
theorem code_p (w : World) : Calls Tryz.prog 70 #[] w (EntR w 1 1 ⟨#[115]⟩ (121, none)) := by
  have hmf : ∀ (fn : Fn) (first cap : Array Value) (w : World), (Instr.makeFunc fn first cap).run Tryz.prog w = .ok (.func fn first cap) w := fun _ _ _ _ => rfl
  have HL := Lib.hid ((Loc.start w).alloc' rfl 81 #[.int .i64 0, .int .i64 0, .string ⟨#[]⟩, .nilFunc])
  have HE := entry_any 1 1 ⟨#[115]⟩ (.func 121) #[] #[] (w.alloc (.cells #[.int .i64 0, .int .i64 0, .string ⟨#[]⟩, .nilFunc] 81))
  have HS := Lib.hid (show (w.alloc (.cells #[.int .i64 0, .int .i64 0, .string ⟨#[]⟩, .nilFunc] 81)).heap.size = w.heap.size + 1 from by simp)
  rw [HS.out] at HE
  have HE := Lib.hid HE
  go_enter Tryz.func70, Tryz.ntmps70
  go_upto_region 99 with (go_at_call 50; (with_reducible refine HE.out.mono ?_); rintro e wx ⟨rfl, hp, hb⟩; have HP := Lib.hid hp; have HL2 := Lib.hid (HL.out.step (by rw [HS.out]; exact hb)); clear hp hb; obtain ⟨z0, z1, z2, z3, f0, f1, f2, f3⟩ := four_f (HL2.out.blk (g := w.heap.size) (t := 81) (cs := #[.int .i64 0, .int .i64 0, .string ⟨#[]⟩, .nilFunc]) (List.mem_cons_self ..)))
  clear z0 z1 z2 z3 f0 f1 f2 f3
  obtain ⟨q0, q1, q2, q3, -, -, -, -⟩ := four_f (four_set (HL2.out.blk (g := w.heap.size) (t := 81) (cs := #[.int .i64 0, .int .i64 0, .string ⟨#[]⟩, .nilFunc]) (List.mem_cons_self ..)) (.int .i64 1) (.int .i64 1) (.string ⟨#[115]⟩) (.func (.func 105) #[] #[.pointer (some ⟨w.heap.size + 1, 0, none⟩)]))
  refine bodyPost_ret (v := entV 1 1 ⟨#[115]⟩ (w.heap.size + 1)) (by simp [results, Tryz.results70, go_sem, q0, q1, q2, q3]) rfl ⟨_, rfl, fun b hb => ⟨by omega, four_far HP.out (by omega) _ _ _ _⟩, below_four HL2.out.bel (by omega) _ _ _ _⟩
theorem char_p (w : World) : Calls Tryz.prog 71 #[] w (EntR w 1 1 ⟨#[115]⟩ (122, none)) := by
  have hmf : ∀ (fn : Fn) (first cap : Array Value) (w : World), (Instr.makeFunc fn first cap).run Tryz.prog w = .ok (.func fn first cap) w := fun _ _ _ _ => rfl
  have HL := Lib.hid ((Loc.start w).alloc' rfl 81 #[.int .i64 0, .int .i64 0, .string ⟨#[]⟩, .nilFunc])
  have HE := entry_any 1 1 ⟨#[115]⟩ (.func 122) #[] #[] (w.alloc (.cells #[.int .i64 0, .int .i64 0, .string ⟨#[]⟩, .nilFunc] 81))
  have HS := Lib.hid (show (w.alloc (.cells #[.int .i64 0, .int .i64 0, .string ⟨#[]⟩, .nilFunc] 81)).heap.size = w.heap.size + 1 from by simp)
  rw [HS.out] at HE
  have HE := Lib.hid HE
  go_enter Tryz.func71, Tryz.ntmps71
  go_upto_region 99 with (go_at_call 50; (with_reducible refine HE.out.mono ?_); rintro e wx ⟨rfl, hp, hb⟩; have HP := Lib.hid hp; have HL2 := Lib.hid (HL.out.step (by rw [HS.out]; exact hb)); clear hp hb; obtain ⟨z0, z1, z2, z3, f0, f1, f2, f3⟩ := four_f (HL2.out.blk (g := w.heap.size) (t := 81) (cs := #[.int .i64 0, .int .i64 0, .string ⟨#[]⟩, .nilFunc]) (List.mem_cons_self ..)))
  clear z0 z1 z2 z3 f0 f1 f2 f3
  obtain ⟨q0, q1, q2, q3, -, -, -, -⟩ := four_f (four_set (HL2.out.blk (g := w.heap.size) (t := 81) (cs := #[.int .i64 0, .int .i64 0, .string ⟨#[]⟩, .nilFunc]) (List.mem_cons_self ..)) (.int .i64 1) (.int .i64 1) (.string ⟨#[115]⟩) (.func (.func 105) #[] #[.pointer (some ⟨w.heap.size + 1, 0, none⟩)]))
  refine bodyPost_ret (v := entV 1 1 ⟨#[115]⟩ (w.heap.size + 1)) (by simp [results, Tryz.results71, go_sem, q0, q1, q2, q3]) rfl ⟨_, rfl, fun b hb => ⟨by omega, four_far HP.out (by omega) _ _ _ _⟩, below_four HL2.out.bel (by omega) _ _ _ _⟩
theorem text_p (g : Nat) (w : World) : Calls Tryz.prog 54 #[.func (.func g) #[] #[]] w (EntR w 1 1 ⟨#[115]⟩ (109, some g)) := by
  have hmf : ∀ (fn : Fn) (first cap : Array Value) (w : World), (Instr.makeFunc fn first cap).run Tryz.prog w = .ok (.func fn first cap) w := fun _ _ _ _ => rfl
  have HL := Lib.hid (((Loc.start w).alloc' rfl 68 #[.func (.func g) #[] #[]]).alloc' (g := w.heap.size + 1) (by simp) 81 #[.int .i64 0, .int .i64 0, .string ⟨#[]⟩, .nilFunc])
  have HE := entry_any 1 1 ⟨#[115]⟩ (.func 109) #[] #[.pointer (some ⟨w.heap.size, 0, none⟩)] ((w.alloc (.cells #[.func (.func g) #[] #[]] 68)).alloc (.cells #[.int .i64 0, .int .i64 0, .string ⟨#[]⟩, .nilFunc] 81))
  have HS := Lib.hid (show ((w.alloc (.cells #[.func (.func g) #[] #[]] 68)).alloc (.cells #[.int .i64 0, .int .i64 0, .string ⟨#[]⟩, .nilFunc] 81)).heap.size = w.heap.size + 2 from by simp)
  rw [HS.out] at HE
  have HE := Lib.hid HE
  go_enter Tryz.func54, Tryz.ntmps54
  go_upto_region 99 with (go_at_call 50; (with_reducible refine HE.out.mono ?_); rintro e wx ⟨rfl, hp, hb⟩; have HP := Lib.hid hp; have HL2 := Lib.hid (HL.out.step (by rw [HS.out]; exact hb)); clear hp hb; obtain ⟨z0, z1, z2, z3, f0, f1, f2, f3⟩ := four_f (HL2.out.blk (g := (w.heap.size + 1)) (t := 81) (cs := #[.int .i64 0, .int .i64 0, .string ⟨#[]⟩, .nilFunc]) (List.mem_cons_self ..)))
  clear z0 z1 z2 z3 f0 f1 f2 f3
  obtain ⟨q0, q1, q2, q3, -, -, -, -⟩ := four_f (four_set (HL2.out.blk (g := (w.heap.size + 1)) (t := 81) (cs := #[.int .i64 0, .int .i64 0, .string ⟨#[]⟩, .nilFunc]) (List.mem_cons_self ..)) (.int .i64 1) (.int .i64 1) (.string ⟨#[115]⟩) (.func (.func 105) #[] #[.pointer (some ⟨w.heap.size + 2, 0, none⟩)]))
  refine bodyPost_ret (v := entV 1 1 ⟨#[115]⟩ (w.heap.size + 2)) (by simp [results, Tryz.results54, go_sem, q0, q1, q2, q3]) rfl ⟨_, rfl, fun b hb => ⟨by omega, w.heap.size, by omega, four_far HP.out (by omega) _ _ _ _, four_far (HL2.out.blk (g := w.heap.size) (List.mem_cons_of_mem _ (List.mem_cons_self ..))) (by omega) _ _ _ _⟩, below_four HL2.out.bel (by omega) _ _ _ _⟩

abbrev EY := ByteArray × Int × Int × ByteArray × FV
/-- An entry of the map is what the list says. -/
def EntOk (W : World) (b : Nat) (x : ByteArray × Value) (y : EY) : Prop := x.1 = y.1 ∧ ∃ p, x.2 = entV y.2.1 y.2.2.1 y.2.2.2.1 p ∧ FBn W b p y.2.2.2.2
def Ents (W : World) (b : Nat) : List (ByteArray × Value) → List EY → Prop
  | [], [] => True
  | x :: xs, y :: ys => EntOk W b x y ∧ Ents W b xs ys
  | _, _ => False
theorem Ents.imp {W W' : World} {b : Nat} (h : ∀ p t cs, p ≠ b → Blk W p t cs → Blk W' p t cs) : ∀ xs ys, Ents W b xs ys → Ents W' b xs ys
  | [], [], _ => trivial
  | x :: xs, y :: ys, ⟨⟨h1, p, h3, h4⟩, h5⟩ => ⟨⟨h1, p, h3, FBn.imp h h4⟩, Ents.imp h xs ys h5⟩
  | [], _ :: _, h => h.elim
  | _ :: _, [], h => h.elim
theorem Ents.snoc {W : World} {b : Nat} {x : ByteArray × Value} {y : EY} (hy : EntOk W b x y) : ∀ xs ys, Ents W b xs ys → Ents W b (xs ++ [x]) (ys ++ [y])
  | [], [], _ => ⟨hy, trivial⟩
  | x' :: xs, y' :: ys, ⟨h1, h2⟩ => ⟨h1, Ents.snoc hy xs ys h2⟩
  | [], _ :: _, h => h.elim
  | _ :: _, [], h => h.elim
def sameT (a b : ByteArray) : Bool := a.data.toList == b.data.toList
theorem sameT_iff (a b : ByteArray) : sameT a b = true ↔ a = b := by
  unfold sameT
  rw [beq_iff_eq]
  constructor
  · intro h
    obtain ⟨⟨a⟩⟩ := a
    obtain ⟨⟨b⟩⟩ := b
    have h : a = b := h
    rw [h]
  · intro h
    rw [h]
theorem ents_none {W : World} {b : Nat} (k : ByteArray) : ∀ xs ys, Ents W b xs ys → (ys.all fun y => !sameT y.1 k) = true → findS k xs = none
  | [], _, _, _ => rfl
  | x :: xs, y :: ys, ⟨⟨h1, _⟩, h2⟩, hf => by
    rw [List.all_cons, Bool.and_eq_true] at hf
    have hne : ¬ x.1 = k := fun e => by
      have := hf.1
      rw [← h1, (sameT_iff _ _).2 e] at this
      cases this
    unfold findS
    rw [if_neg hne]
    exact ents_none k xs ys h2 hf.2
  | _ :: _, [], h, _ => h.elim
theorem ents_some {W : World} {b : Nat} (k : ByteArray) (y0 : EY) : ∀ xs ys, Ents W b xs ys → (ys.find? fun y => sameT y.1 k) = some y0 → ∃ p, findS k xs = some (entV y0.2.1 y0.2.2.1 y0.2.2.2.1 p) ∧ FB W p y0.2.2.2.2
  | [], [], _, hf => by cases hf
  | x :: xs, y :: ys, ⟨⟨h1, p, h3, h4⟩, h2⟩, hf => by
    rw [List.find?_cons] at hf
    unfold findS
    split at hf
    · rename_i hs
      cases hf
      refine ⟨p, ?_, FBn.fb h4⟩
      rw [if_pos (h1.trans ((sameT_iff _ _).1 hs)), h3]
    · rename_i hs
      have hne : ¬ x.1 = k := fun e => by
        rw [← h1, (sameT_iff _ _).2 e] at hs
        cases hs
      rw [if_neg hne]
      exact ents_some k y0 xs ys h2 hf
  | [], _ :: _, h, _ => h.elim
  | _ :: _, [], h, _ => h.elim
/-- The map, so far. -/
structure TS (w W : World) (b : Nat) (L : List EY) : Prop where
  ex : ∃ LV, MapAt W b LV ∧ Ents W b LV L
  bel : Below w.heap.size w W
  base : w.heap.size ≤ b
section
variable {w W W' : World} {b : Nat} {L : List EY}
theorem TS.new (w : World) : TS w (w.alloc (.map #[] 0)) w.heap.size [] := ⟨⟨[], MapAt.new w, trivial⟩, (Below.refl _ _).alloc (Nat.le_refl _) _, Nat.le_refl _⟩
theorem TS.step (h : TS w W b L) (hb : Below W.heap.size W W') : TS w W' b L := by
  obtain ⟨LV, h1, h2⟩ := h.ex
  exact ⟨⟨LV, h1.later hb, h2.imp fun p t cs _ h => h.later hb⟩, h.bel.trans (hb.mono h.bel.size), h.base⟩
theorem TS.look (h : TS w W b L) (k : ByteArray) (y : EY) (hf : (L.find? fun y => sameT y.1 k) = some y) : ∃ p, (Instr.lookup 55 (.map (some b)) (.string k) true).run Tryz.prog W = .ok (.tuple #[entV y.2.1 y.2.2.1 y.2.2.2.1 p, .bool true]) W ∧ FB W p y.2.2.2.2 := by
  obtain ⟨LV, h1, h2⟩ := h.ex
  obtain ⟨p, h3, h4⟩ := ents_some k y LV L h2 hf
  exact ⟨p, h1.look Tryz.underlying55 Tryz.underlying9 k _ h3, h4⟩
/-- A new entry is put. -/
theorem wp_ent {ops : Array Oper} {rest : List Oper} {o : Oper} {a : Act} {Q : Exit → Act → World → Prop} (hg : o.guard = none) (m x v : Operand) (hop : o.op = Op.insert 55 m x v) (hb : a.eval m = .map (some b)) (k : ByteArray) (hx : a.eval x = .string k) (lo hi : Int) (ks : ByteArray) (f : FV) (p : Nat) (hv : a.eval v = entV lo hi ks p) (h : TS w W b L) (hp : FBn W b p f) (hf : (L.all fun y => !sameT y.1 k) = true)
    (hK : ∀ W', TS w W' b (L ++ [(k, lo, hi, ks, f)]) → wpList Tryz.prog ops Q rest (a.put o.dst undef) W') : wpList Tryz.prog ops Q (o :: rest) a W := by
  obtain ⟨LV, h1, h2⟩ := h.ex
  refine wp_put hg m x v hop Tryz.underlying55 Tryz.underlying9 b LV hb k hx h1 (ents_none k LV L h2 hf) fun W' g1 g2 => hK W' ?_
  rw [hv] at g1
  have hi' : ∀ p t cs, p ≠ b → Blk W p t cs → Blk W' p t cs := fun p t cs hne hB => g2.blk hB hB.lt (by simpa using hne)
  refine ⟨⟨_, g1, (h2.imp hi').snoc ⟨rfl, p, rfl, FBn.imp hi' hp⟩⟩, ?_, h.base⟩
  exact h.bel.trans (g2.below h.bel.size fun x hx => by
    rw [List.mem_singleton.1 hx]
    exact h.base)
end
/-- All functions of the table. -/
def tabL : List EY := [(⟨#[76, 69, 78]⟩, 1, 1, ⟨#[115]⟩, (51, none)), (⟨#[76, 79, 87, 69, 82]⟩, 1, 1, ⟨#[115]⟩, (109, some 39)), (⟨#[85, 80, 80, 69, 82]⟩, 1, 1, ⟨#[115]⟩, (109, some 55)), (⟨#[80, 82, 79, 80, 69, 82]⟩, 1, 1, ⟨#[115]⟩, (109, some 56)), (⟨#[84, 82, 73, 77]⟩, 1, 1, ⟨#[115]⟩, (109, some 57)), (⟨#[67, 76, 69, 65, 78]⟩, 1, 1, ⟨#[115]⟩, (109, some 58)), (⟨#[76, 69, 70, 84]⟩, 1, 2, ⟨#[115]⟩, (59, none)), (⟨#[82, 73, 71, 72, 84]⟩, 1, 2, ⟨#[115]⟩, (60, none)), (⟨#[77, 73, 68]⟩, 3, 3, ⟨#[115]⟩, (61, none)), (⟨#[82, 69, 80, 84]⟩, 2, 2, ⟨#[115]⟩, (62, none)), (⟨#[69, 88, 65, 67, 84]⟩, 2, 2, ⟨#[115]⟩, (63, none)), (⟨#[70, 73, 78, 68]⟩, 2, 3, ⟨#[115]⟩, (64, none)), (⟨#[83, 69, 65, 82, 67, 72]⟩, 2, 3, ⟨#[115]⟩, (66, none)), (⟨#[82, 69, 80, 76, 65, 67, 69]⟩, 4, 4, ⟨#[115]⟩, (68, none)), (⟨#[83, 85, 66, 83, 84, 73, 84, 85, 84, 69]⟩, 3, 4, ⟨#[115]⟩, (69, none)), (⟨#[67, 79, 68, 69]⟩, 1, 1, ⟨#[115]⟩, (121, none)), (⟨#[85, 78, 73, 67, 79, 68, 69]⟩, 1, 1, ⟨#[115]⟩, (121, none)), (⟨#[67, 72, 65, 82]⟩, 1, 1, ⟨#[115]⟩, (122, none)), (⟨#[85, 78, 73, 67, 72, 65, 82]⟩, 1, 1, ⟨#[115]⟩, (122, none)), (⟨#[86, 65, 76, 85, 69]⟩, 1, 1, ⟨#[115]⟩, (72, none)), (⟨#[84]⟩, 1, 1, ⟨#[115]⟩, (75, none)), (⟨#[70, 73, 88, 69, 68]⟩, 1, 3, ⟨#[115]⟩, (76, none)), (⟨#[84, 69, 88, 84]⟩, 2, 2, ⟨#[115]⟩, (77, none)), (⟨#[67, 79, 78, 67, 65, 84]⟩, 1, 255, ⟨#[97]⟩, (78, none)), (⟨#[67, 79, 78, 67, 65, 84, 69, 78, 65, 84, 69]⟩, 1, 255, ⟨#[115]⟩, (81, none)), (⟨#[84, 69, 88, 84, 74, 79, 73, 78]⟩, 3, 255, ⟨#[115, 115, 97]⟩, (82, none)), (⟨#[84, 69, 88, 84, 83, 80, 76, 73, 84]⟩, 2, 3, ⟨#[115]⟩, (83, none)), (⟨#[84, 69, 88, 84, 66, 69, 70, 79, 82, 69]⟩, 2, 3, ⟨#[115]⟩, (84, none)), (⟨#[84, 69, 88, 84, 65, 70, 84, 69, 82]⟩, 2, 3, ⟨#[115]⟩, (86, none))]
theorem TS.lt {w W : World} {b : Nat} {L : List EY} (h : TS w W b L) : b < W.heap.size := by
  obtain ⟨LV, h1, -⟩ := h.ex
  exact h1.lt
set_option maxRecDepth 100000 in
set_option maxHeartbeats 16000000 in
theorem table_any (w : World) : Calls Tryz.prog 30 #[] w fun e w' => ∃ b, e = .returned (.map (some b)) ∧ TS w w' b tabL := by
  have hmm : (Instr.makeMap 55 none).run Tryz.prog w = .ok (.map (some w.heap.size)) (w.alloc (.map #[] 0)) := by simp [Instr.makeMap, Result.andThen]
  have hmf : ∀ (fn : Fn) (first cap : Array Value) (w : World), (Instr.makeFunc fn first cap).run Tryz.prog w = .ok (.func fn first cap) w := fun _ _ _ _ => rfl
  have HT := Lib.hid (TS.new w)
  generalize hb0 : w.heap.size = b at hmm HT
  have HB := Lib.hid hb0
  clear hb0
  go_enter Tryz.func30, Tryz.ntmps30
  go_wp2_with (first
    | (first | (go_at_call 50; (with_reducible refine (entry_p _ _ _ _ _).mono ?_)) | (go_at_call 54; (with_reducible refine (text_p _ _).mono ?_)) | (go_at_call 70; (with_reducible refine (code_p _).mono ?_)) | (go_at_call 71; (with_reducible refine (char_p _).mono ?_))
       rintro e wx ⟨p, rfl, hp0, hbl⟩
       have hp := hp0 b HT.out.lt
       have HT2 := Lib.hid (HT.out.step hbl); clear HT hbl hp0; have HT := HT2; clear HT2)
    | (refine wp_ent rfl _ _ _ rfl rfl _ rfl _ _ _ _ _ rfl HT.out hp (by decide +kernel) ?_; intro Wn ht; have HT2 := Lib.hid ht; clear ht hp HT; have HT := HT2; clear HT2))
  go_ret
  exact ⟨_, rfl, HT.out⟩
end Go.Proofs.YtcnlonaighlmbaaGreatDoor
