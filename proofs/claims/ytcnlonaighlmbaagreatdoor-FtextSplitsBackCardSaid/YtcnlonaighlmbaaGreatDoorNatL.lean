/- The text of a nat. -/
import Derived.Test.YtcnlonaighlmbaaGreatDoorNatK
import Derived.Test.YtcnlonaighlmbaaGreatDoorBldk
import Derived.Test.YtcnlonaighlmbaaGreatDoorNatT
import Derived.Lib.AppendIntMem
import Derived.Test.YtcnlonaighlmbaaGreatDoorShelf
set_option linter.unusedSimpArgs false
set_option linter.unusedVariables false
namespace Go.Proofs.YtcnlonaighlmbaaGreatDoor
open Go.RowKit Go.Shelf Go.Sort

attribute [local go_sem] Oper.semAt_some

theorem isBuilder_kept {T e : TypeId} {B b : Nat} {bs : List Value} {W W' : World} {row : Option Nat} (h : Lib.IsBuilder T e B b bs W) (hg : W.grownBy W' row) (hr : ∀ r, row = some r → ∃ o : Obj, W.heap[r]? = some o ∧ o.isCells = false) : Lib.IsBuilder T e B b bs W' := by
  have key : ∀ p, Lib.BuilderAt T e B b p bs W → Lib.BuilderAt T e B b p bs W' := fun p ⟨h1, v, h2, h3, h4⟩ => by
    refine ⟨h1, v, ?_, World.ownsRow.kept h3 hg ?_, h4⟩
    · rw [grownBy_keeps_cells hg hr h2 rfl]
      exact h2
    · cases hv : v.ownBlock with
      | none => exact .inl rfl
      | some g =>
        right
        intro e
        obtain ⟨o, ho, hc⟩ := hr g e.symm
        obtain ⟨c, fz, hk⟩ := Lib.ownsRow_kind h3 g hv
        rw [hk] at ho
        injection ho with ho
        subst ho
        cases hc
  exact h.elim (fun h => .inl (key _ h)) (fun h => .inr (key _ h))

theorem heap_new (w : World) (o : Obj) : (w.alloc o).heap[w.heap.size]? = some o := by
  show (w.heap.push o)[w.heap.size]? = some o
  simp
theorem heap_kept (w : World) (o : Obj) {k : Nat} {x : Obj} (h : w.heap[k]? = some x) : (w.alloc o).heap[k]? = some x := (Lib.alloc_old w o k (Array.getElem?_eq_some_iff.1 h).1).trans h
theorem cell_new1 (w : World) (v : Value) (t : TypeId) : (w.alloc (.cells #[v] t)).cell? ⟨w.heap.size, 0, none⟩ = some v := by simp
theorem zeros_cut (m : Nat) (h9 : m ≤ 9) (h1 : 1 ≤ m) : ((ByteArray.mk #[48, 48, 48, 48, 48, 48, 48, 48]).extract 0 (9 - m)).data.toList = List.replicate (9 - m) 48 := by
  have : ∀ k : Nat, k ≤ 8 → ((ByteArray.mk #[48, 48, 48, 48, 48, 48, 48, 48]).extract 0 k).data.toList = List.replicate k 48 := by decide
  exact this _ (by omega)
/-- What stands between two rounds of text. -/
structure Fr (S : Nat) (sv : Value) (w1 : World) (bs : List UInt8) (W : World) : Prop where
  b : Lib.IsBuilder 148 5 (S + 1) (S + 1) (Lib.byteCells bs) W
  x : W.heap[S + 2]? = some (.cells #[sv] 58 (0, 0))
  lo : Below (S + 1) w1 W

def Stp (S : Nat) (W W' : World) : Prop := KeepsOthers W W' ∧ Kb (S + 1) (S + 2) W W'
theorem Stp.trans {S : Nat} {X Y Z : World} (h : Stp S X Y) (k : Stp S Y Z) : Stp S X Z := ⟨h.1.trans k.1, h.2.trans k.2⟩
theorem Stp.refl (S : Nat) (W : World) : Stp S W W := ⟨KeepsOthers.refl W, Kb.refl _ _ W⟩

section
variable {S : Nat} {sv : Value} {w1 W W' : World} {bs : List UInt8}
theorem Fr.lt (h : Fr S sv w1 bs W) : S + 2 < W.heap.size := (Array.getElem?_eq_some_iff.1 h.x).1
theorem Fr.own {β : Type} (f : β → List UInt8) (S : Nat) (sv : Value) (w1 : World) (hw : S + 1 ≤ w1.heap.size) {B : Nat} (hB : S + 1 ≤ B) : OwnFrom B (fun s W => Fr S sv w1 (f s) W) := fun s A C row hs hg hr => by
  have hr' : ∀ r, row = some r → ∃ o : Obj, A.heap[r]? = some o ∧ o.isCells = false := fun r e => (hr r e).2
  exact ⟨isBuilder_kept hs.b hg hr', (grownBy_keeps_cells hg hr' hs.x rfl).trans hs.x, hs.lo.grown hg (Nat.le_trans hw hs.lo.size) (fun k e => Nat.le_trans hB (hr k e).1)⟩
theorem Fr.grown (h : Fr S sv w1 bs W) (k : Nat) (os : Array Obj) : Fr S sv w1 bs (grow (W.drewN k) os) ∧ Stp S W (grow (W.drewN k) os) := by
  have hlt := h.lt
  have hsz := Lib.size_grow W k os
  have hg : W.grownBy (Go.Sort.grow (W.drewN k) os) none := ⟨rfl, rfl, rfl, hsz, fun j hj _ => Lib.heap_grow_old W k os j hj⟩
  have hb := Lib.below_grow (S + 1) W (by omega) k os
  have hx := Lib.heap_grow_old W k os (S + 2) hlt
  refine ⟨⟨isBuilder_kept h.b hg (fun r e => by cases e), hx.trans h.x, h.lo.trans hb⟩, ⟨hsz, fun j o hj _ => ?_⟩, hb, hx⟩
  rw [Lib.heap_grow_old W k os j (Array.getElem?_eq_some_iff.1 hj).1]
  exact hj
theorem Fr.wrote (h : Fr S sv w1 bs W) {s : ByteArray} (hb : Lib.BuilderAt 148 5 (S + 1) (S + 1) (.pointer (some ⟨S + 1, 0, none⟩)) (Lib.byteCells bs ++ Lib.strCells s) W') (h1 : Below (S + 1) W W') (h2 : Lib.OthersKept 5 (some (S + 1)) W W') :
    Fr S sv w1 (bs ++ s.data.toList) W' ∧ Stp S W W' := by
  have hx := h2 (S + 2) _ h.x (by simp) (by intro c fz e; injection e with _ e _; exact absurd e (by decide))
  refine ⟨⟨.inr (by rw [Lib.byteCells_append]; exact hb), hx, h.lo.trans h1⟩, ⟨h1.size, fun k o hk hc => h2 k o hk ?_ ?_⟩, h1, hx.trans h.x.symm⟩
  · intro e
    injection e with e
    subst e
    rcases h.b with ⟨_, v, hv, _⟩ | ⟨_, v, hv, _⟩ <;> (rw [hv] at hk; injection hk with hk; subst hk; cases hc)
  · rintro c fz rfl
    cases hc
theorem Fr.write (h : Fr S sv w1 bs W) (hl : bs.length ≤ 9895604649984) (t : ByteArray) (ht : t.size ≤ 9) :
    Calls Tryz.prog 131 #[.pointer (some ⟨S + 1, 0, none⟩), .string t] W fun e W' => e = .returned (.tuple #[.int .i64 t.size, .nilIface]) ∧ Fr S sv w1 (bs ++ t.data.toList) W' ∧ Stp S W W' ∧ (bs ++ t.data.toList).length ≤ bs.length + 9 := by
  have hlt := h.lt
  refine (writeString_any (S + 1) (S + 1) _ t W h.b (by rw [Lib.byteCells_length]; omega) (by omega)).mono ?_
  rintro e W' ⟨rfl, h1, h2, h3⟩
  have e : t.data.toList.length = t.size := rfl
  exact ⟨rfl, (h.wrote h1 h2 h3).1, (h.wrote h1 h2 h3).2, by rw [List.length_append]; omega⟩
theorem Fr.cell (h : Fr S sv w1 bs W) (hc : w1.cell? ⟨S, 0, none⟩ = some sv) : W.cell? ⟨S, 0, none⟩ = some sv := (h.lo.cell (p := ⟨S, 0, none⟩) (Nat.lt_succ_self S)).trans hc
end

namespace Nt
def txtOf (len : Nat) (pre : List Pd) : List UInt8 := pre.flatMap fun x => piece len x.1
theorem txtOf_snoc (len : Nat) (pre : List Pd) (x : Pd) : txtOf len (pre ++ [x]) = txtOf len pre ++ piece len x.1 := by simp [txtOf]
theorem piece_len (len : Nat) (x : Pd) : (piece len x.1).length ≤ 9 := by
  have h := dd_len x.2
  unfold piece padk
  split <;> simp <;> omega
theorem txtOf_len (len : Nat) (pre : List Pd) : (txtOf len pre).length ≤ 9 * pre.length := by
  induction pre with
  | nil => simp [txtOf]
  | cons x t ih =>
    have h := piece_len len x
    have e : txtOf len (x :: t) = piece len x.1 ++ txtOf len t := by simp [txtOf]
    rw [e, List.length_append, List.length_cons]
    omega
/-- The text of digits. -/
def txt (l : List Nat) (h : dig l) : List UInt8 := if l = [] then [48] else txtOf l.length (comes l h)
theorem txt_law (n : Nat) : txt (digs n) (digs_canon n).1 = Lib.decDigits n := by
  unfold txt
  by_cases h : digs n = []
  · rw [if_pos h]
    have : n = 0 := by have := val_digs n; rw [h] at this; exact this.symm
    subst this
    rw [Lib.decDigits_one (by omega)]
    rfl
  · rw [if_neg h]
    have h1 := T_law (digs n) (digs_canon n) h
    rw [val_digs, ← piece_T _ h] at h1
    rw [← h1]
    unfold txtOf comes upto
    rw [List.flatMap_map]
end Nt

set_option maxRecDepth 100000 in
set_option maxHeartbeats 4000000 in
theorem text_any (v : Value) (l : List Nat) (hl : Nt.dig l) (w : World) (h : Nv w v l) (htab : Lib.TabIs Tryz.prog w "internal/strconv.uint64pow10" .u64 Lib.pow10Tab) :
    Calls Tryz.prog 197 #[v] w fun e w' => e = .returned (.string ⟨(Nt.txt l hl).toArray⟩) ∧ Below w.heap.size w w' := by
  have hlen := h.len
  have HN := Lib.hid h
  obtain ⟨A, c, rfl, -, -, -, -⟩ := h.ex
  have HT := Lib.hid htab
  clear h htab
  refine (callsIn_wide (n := 3)).1 ?_
  refine callsIn_of_wp_marks Tryz.func197 rfl trivial ?_ rfl
  simp only [Tryz.ntmps197, List.size_toArray, List.length_cons, List.length_nil, Nat.reduceAdd, Nat.reduceSub, Array.replicate_succ, Array.replicate_zero, List.push_toArray, List.append_toArray, List.nil_append, List.cons_append]
  rcases Nat.eq_zero_or_pos l.length with h0 | hpos
  · have hz : ((l.length : Int) == 0) = true := by rw [beq_iff_eq]; omega
    have e : l = [] := List.eq_nil_of_length_eq_zero h0
    have HE := Lib.hid e
    clear e h0
    gi_wp2_with (first | (refine ⟨trivial, ?_⟩; gi_at_call 137; refine (callsIn_wide.2 (zero_any _ _ _ _)).mono ?_; rintro e w1 ⟨rfl, rfl⟩))
    refine ⟨.string ⟨#[48]⟩, results_tmp (fn := Tryz.f197) (t := 2) rfl _ _ _, ?_, ?_⟩
    · unfold Nt.txt
      rw [if_pos HE.out]
    · exact (Below.refl _ _).alloc (Nat.le_refl _) _
  have hz : ((l.length : Int) == 0) = false := by rw [beq_eq_false_iff_ne]; omega
  gi_wp2_with (first | (refine ⟨trivial, ?_⟩; gi_at_call 137; refine (callsIn_wide.2 (zero_any _ _ _ _)).mono ?_; rintro e w1 ⟨rfl, rfl⟩) | (refine ⟨trivial, ?_⟩; gi_at_call 231; refine (backward_in Fence.wide _ trivial rfl _ _ _ _).mono ?_; rintro e w2 ⟨rfl, rfl⟩))
  obtain ⟨W0, hW0⟩ : ∃ W0, (((w.alloc (.cells #[.slice A l.length c] 58)).alloc (.cells #[.pointer none, .slice none 0 0] 148)).alloc (.cells #[.slice A l.length c] 58)) = W0 := ⟨_, rfl⟩
  have hsz : W0.heap.size = w.heap.size + 3 := by subst hW0; simp
  have hb0 : Below (w.heap.size + 1) (w.alloc (.cells #[.slice A l.length c] 58)) W0 := by
    subst hW0
    exact ((Below.refl _ _).alloc (by simp) _).alloc (by simp) _
  have hbw : Below w.heap.size w W0 := ((Below.refl _ _).alloc (Nat.le_refl _) _).trans (hb0.mono (by simp))
  have hc0 : (w.alloc (.cells #[.slice A l.length c] 58)).cell? ⟨w.heap.size, 0, none⟩ = some (.slice A l.length c) := by simp
  have hc2 : W0.cell? ⟨w.heap.size + 2, 0, none⟩ = some (.slice A l.length c) := by
    subst hW0
    have := cell_new1 ((w.alloc (.cells #[.slice A l.length c] 58)).alloc (.cells #[.pointer none, .slice none 0 0] 148)) (.slice A l.length c) 58
    simpa using this
  have hx0 : W0.heap[w.heap.size + 2]? = some (.cells #[.slice A l.length c] 58 (0, 0)) := by
    subst hW0
    have := heap_new ((w.alloc (.cells #[.slice A l.length c] 58)).alloc (.cells #[.pointer none, .slice none 0 0] 148)) (.cells #[.slice A l.length c] 58)
    rw [World.size_alloc, World.size_alloc] at this
    exact this
  have hf0 : Fr w.heap.size (.slice A l.length c) (w.alloc (.cells #[.slice A l.length c] 58)) [] W0 := by
    refine ⟨.inl ⟨Nat.le_refl _, .slice none 0 0, ?_, World.ownsRow_nil _ _ _ _, by intro e; cases e⟩, hx0, hb0⟩
    have := heap_kept _ (.cells #[.slice A l.length c] 58) (heap_new (w.alloc (.cells #[.slice A l.length c] 58)) (.cells #[.pointer none, .slice none 0 0] 148))
    rw [World.size_alloc, hW0] at this
    exact this
  rw [hW0]
  clear hW0
  have hTB := Lib.tabBelow_of_tabIs HT.out
  refine wpIn_rangeFunc_ownG rfl (by omega) (gf := 263) (lb := #[.pointer (some ⟨w.heap.size + 1 + 1, 0, none⟩)]) rfl trivial (enters_of Tryz.func263 (by kernel_rfl) rfl)
    (back_stops Fence.wide _ trivial rfl (by omega) (w.heap.size + 1 + 1) (w.heap.size + 1) _ l hl (w.alloc (.cells #[.slice A l.length c] 58)) W0 (by omega) (by simp) hc2 (HN.out.below ((Below.refl _ w).alloc (Nat.le_refl _) _)) hb0) Kb.trans (kb_b (by omega) (by omega)) (Below.refl _ _) (fun _ => rfl)
    (fun pre W => Fr w.heap.size (.slice A l.length c) (w.alloc (.cells #[.slice A l.length c] 58)) (Nt.txtOf l.length pre) W)
    (fun _ _ _ => False)
    (Fr.own (fun pre => Nt.txtOf l.length pre) _ _ _ (by simp) (by omega))
    (fun _ _ _ _ _ hs _ _ => hs)
    hf0
    (fun x => { tmps := #[.slice A l.length c, .pointer (some ⟨w.heap.size, 0, none⟩), .string ⟨#[]⟩, .pointer (some ⟨w.heap.size + 1, 0, none⟩), .int .i64 (x.1.1 : Int), .int .u32 (x.1.2 : Int), undef, .slice A l.length c, .bool false, .slice A l.length c, .func (.func 263) #[] #[.pointer (some ⟨w.heap.size + 1 + 1, 0, none⟩)], .int .i64 (x.1.1 : Int), .int .u32 (x.1.2 : Int), undef, undef, undef, undef, undef, undef, undef, undef, undef, undef, undef, undef, undef, undef, undef, undef], defers := [] }) ?assign ?body ?done ?stop
  case assign =>
    intro k x W K hK
    gi_wp2
    exact hK
  case body =>
    rintro k pre x W hF hpl
    obtain ⟨⟨i, d⟩, hd⟩ := x
    dsimp only at hd ⊢
    have hd9 : (d : Int) ≤ 999999999 := by have : d < 1000000000 := hd; omega
    have hm1 := Nt.dd_len hd
    have hm0 := Nt.dd_pos d
    have HIt : Calls Tryz.prog 97 #[.int .i64 (d : Int)] W fun e W' => ∃ s : ByteArray, e = .returned (.string s) ∧ s.size ≤ 9 ∧ 1 ≤ s.size ∧ s.data.toList = Lib.decDigits d ∧ Fr w.heap.size (.slice A l.length c) (w.alloc (.cells #[.slice A l.length c] 58)) (Nt.txtOf l.length pre) W' ∧ Stp w.heap.size W W' := by
      refine (Tryz.strconv_Itoa (d : Int) (by omega) (by omega) W (hTB W ?_)).mono ?_
      · exact ((Below.refl _ _).alloc (Nat.le_refl _) _).trans (hF.lo.mono (by simp))
      · rintro e W' ⟨rfl, q, os, rfl⟩
        refine ⟨_, rfl, ?_, ?_, ?_, (hF.grown q os).1, (hF.grown q os).2⟩
        · rw [Lib.itoa_nonneg]; exact hm1
        · rw [Lib.itoa_nonneg]; exact hm0
        · rw [Lib.itoa_nonneg]
    have HIt := Lib.hid HIt
    have hbl : (Nt.txtOf l.length pre).length + 9 ≤ 9 * l.length := by
      have := Nt.txtOf_len l.length pre
      omega
    have HF := Lib.hid hF
    clear hF hm1 hm0
    gi_wp2_with (first | (refine ⟨trivial, ?_⟩; gi_at_call 97; refine (CallsIn.inRound k (callsIn_wide.2 HIt.out)).mono ?_; rintro e W2 ⟨s, rfl, hm9, hm1, hsl, hF2, hS2⟩; have c2 := hF2.cell hc0; have l2 := hF2.lt; have HF2 := Lib.hid hF2; have HS2 := Lib.hid hS2; have HSL := Lib.hid hsl; clear hF2 hS2 hsl) | (refine ⟨trivial, ?_⟩; gi_at_call 131; first | ((with_reducible refine (CallsIn.inRound k (callsIn_wide.2 (HF2.out.write ?_ _ ?_))).mono ?_); omega; (first | omega | (simp [ByteArray.size_extract]; omega)); rintro e W3 ⟨rfl, hF3, hS3, b3⟩; have HF3 := Lib.hid hF3; have HS3 := Lib.hid hS3; have l3 := hF3.lt; have HB3 := Lib.hid b3; clear hF3 hS3 b3) | ((with_reducible refine (CallsIn.inRound k (callsIn_wide.2 (HF3.out.write ?_ _ ?_))).mono ?_); (have := HB3.out; omega); omega; rintro e W4 ⟨rfl, hF4, hS4, b4⟩; have HF4 := Lib.hid hF4; have HS4 := Lib.hid hS4; have l4 := hF4.lt; clear hF4 hS4)))
    · have hi : (i : Int) < (l.length : Int) - 1 := by assumption
      have hS := HS2.out.trans (HS3.out.trans HS4.out)
      refine ⟨hS.1.from _, hS.2, ?_⟩
      have hF4 := HF4.out
      dsimp only
      rw [Nt.txtOf_snoc, Nt.piece, if_pos (by dsimp only; omega), Nt.padk]
      have el : s.size = (Lib.decDigits d).length := by rw [← HSL.out]; rfl
      rw [zeros_cut _ hm9 hm1, HSL.out, el, List.append_assoc] at hF4
      exact hF4
    · have hi : (l.length : Int) - 1 ≤ (i : Int) := by assumption
      have hS := HS2.out.trans HS3.out
      refine ⟨hS.1.from _, hS.2, ?_⟩
      have hF3 := HF3.out
      dsimp only
      rw [Nt.txtOf_snoc, Nt.piece, if_neg (by dsimp only; omega)]
      rw [HSL.out] at hF3
      exact hF3
  case done =>
    rintro D xs W hD rfl hF hK
    have HF := Lib.hid hF
    clear hF
    gi_wp2_with (first | (refine ⟨trivial, ?_⟩; gi_at_call 132; refine (callsIn_wide.2 (Tryz.Builder_String_any_k (w.heap.size + 1) (w.heap.size + 1) _ _ (Lib.IsBuilderF.of HF.out.b) (by have := HF.out.lt; omega))).mono ?_; rintro e W2 ⟨rfl, -, hb2, hk2⟩))
    have hK2 : W2.heap[D]? = some (.deferred (some [])) := hk2 D _ hK (fun e => by injection e with e; omega) (fun c fz e => by cases e)
    refine ⟨by simp, .inl ⟨_, _, rfl, run_takeDeferred hK2, ?_⟩⟩
    refine ⟨_, results_tmp rfl _ _ _, ?_, ?_⟩
    · unfold Nt.txt
      rw [if_neg (by intro e; rw [e] at hpos; simp at hpos)]
      rfl
    · have h1 : Below w.heap.size w W := ((Below.refl _ _).alloc (Nat.le_refl _) _).trans (HF.out.lo.mono (by simp))
      exact (h1.trans (hb2.mono (by omega))).trans (belowK_b (w := w) (Nat.le_refl _) W2 D _ _ (by omega) hK2 rfl rfl)
  case stop =>
    rintro D c pre W _ _ h _
    exact h.elim

/-- (nat).text: the decimal numeral. -/
theorem text_n (v : Value) (n : Nat) (w : World) (h : Nv w v (Nt.digs n)) (htab : Lib.TabIs Tryz.prog w "internal/strconv.uint64pow10" .u64 Lib.pow10Tab) :
    Calls Tryz.prog 197 #[v] w fun e w' => e = .returned (.string ⟨(Lib.decDigits n).toArray⟩) ∧ Below w.heap.size w w' := by
  rw [← Nt.txt_law n]
  exact text_any v _ _ w h htab
end Go.Proofs.YtcnlonaighlmbaaGreatDoor
