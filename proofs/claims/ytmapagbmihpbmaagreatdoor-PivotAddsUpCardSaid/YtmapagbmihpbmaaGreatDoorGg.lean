/- The decimal text of digits in the base 10^9 (plain). -/
import Derived.Test.YtmapagbmihpbmaaGreatDoorGd
import Derived.Lib.ItoaMem
import Derived.Test.YtmapagbmihpbmaaGreatDoorNatK
import Derived.Test.YtmapagbmihpbmaaGreatDoorBldk
import Derived.Lib.AppendIntMem
import Derived.Test.YtmapagbmihpbmaaGreatDoorShelf
import Derived.Shelf.Strings.SlTrimAscii
namespace Go.Proofs.YtmapagbmihpbmaaGreatDoor
namespace Nt
open Go.Lib

theorem nDigits_le : ∀ (k u : Nat), u < 10 ^ (k + 1) → nDigits u ≤ k + 1
  | 0, u, h => by rw [nDigits_small (by simpa using h)]; exact Nat.le_refl _
  | k + 1, u, h => by
    by_cases h1 : u < 10
    · rw [nDigits_small h1]; omega
    · rw [nDigits_big h1]
      have := nDigits_le k (u / 10) (by rw [Nat.pow_succ] at h; omega)
      omega
theorem dd_pos (d : Nat) : 1 ≤ (decDigits d).length := by rw [decDigits_length]; exact nDigits_pos d
theorem dd_le {k d : Nat} (h : d < 10 ^ (k + 1)) : (decDigits d).length ≤ k + 1 := by rw [decDigits_length]; exact nDigits_le k d h
theorem dd_len {d : Nat} (h : d < B) : (decDigits d).length ≤ 9 := dd_le (k := 8) h

/-- k digits, with zeros ahead. -/
def padk (k d : Nat) : List UInt8 := List.replicate (k - (decDigits d).length) 48 ++ decDigits d
theorem padk_succ (k d : Nat) (hk : 1 ≤ k) : padk (k + 1) d = padk k (d / 10) ++ [UInt8.ofNat (48 + d % 10)] := by
  unfold padk
  by_cases h : d < 10
  · have e : d / 10 = 0 := by omega
    rw [e, decDigits_one h, decDigits_one (by omega : 0 < 10), Nat.mod_eq_of_lt h]
    simp only [List.length_singleton, Nat.add_sub_cancel]
    obtain ⟨j, rfl⟩ : ∃ j, k = j + 1 := ⟨k - 1, by omega⟩
    rw [Nat.add_sub_cancel]
    rw [List.replicate_succ']
    rfl
  · have e : decDigits d = decDigits (d / 10) ++ [UInt8.ofNat (48 + d % 10)] := by rw [decDigits, dif_neg h]
    rw [e, List.length_append, List.length_singleton, ← List.append_assoc]
    congr 3
    omega
theorem dd_split : ∀ (k q d : Nat), 1 ≤ q → d < 10 ^ (k + 1) → decDigits (q * 10 ^ (k + 1) + d) = decDigits q ++ padk (k + 1) d
  | 0, q, d, hq, hd => by
    have hd' : d < 10 := by simpa using hd
    rw [decDigits, dif_neg (by simp; omega)]
    have e1 : (q * 10 ^ (0 + 1) + d) / 10 = q := by simp; omega
    have e2 : (q * 10 ^ (0 + 1) + d) % 10 = d := by simp; omega
    rw [e1, e2]
    unfold padk
    rw [decDigits_one hd']
    simp
  | k + 1, q, d, hq, hd => by
    have hp : 1 ≤ 10 ^ (k + 1) := Nat.one_le_pow _ _ (by decide)
    have hb : 10 ≤ q * 10 ^ (k + 1 + 1) := by
      rw [Nat.pow_succ]
      have := Nat.mul_le_mul hq (Nat.mul_le_mul hp (Nat.le_refl 10))
      simpa using this
    rw [decDigits, dif_neg (by omega)]
    have e0 : q * 10 ^ (k + 1 + 1) = 10 * (q * 10 ^ (k + 1)) := by rw [Nat.pow_succ, Nat.mul_comm 10, Nat.mul_assoc]
    have hd' : d / 10 < 10 ^ (k + 1) := by rw [Nat.pow_succ] at hd; omega
    have e1 : (q * 10 ^ (k + 1 + 1) + d) / 10 = q * 10 ^ (k + 1) + d / 10 := by
      rw [e0]
      generalize q * 10 ^ (k + 1) = y
      clear hd hp hb e0
      omega
    have e2 : (q * 10 ^ (k + 1 + 1) + d) % 10 = d % 10 := by
      rw [e0]
      generalize q * 10 ^ (k + 1) = y
      clear hd hp hb e0 e1
      omega
    rw [e1, e2, dd_split k q (d / 10) hq hd', padk_succ (k + 1) d (by omega), List.append_assoc]

/-- The text of digits, the least ahead. -/
def T : List Nat → List UInt8
  | [] => []
  | [d] => decDigits d
  | d :: e :: t => T (e :: t) ++ padk 9 d
theorem T_law : ∀ (l : List Nat), canon l → l ≠ [] → T l = decDigits (val l)
  | [], _, h => absurd rfl h
  | [d], _, _ => by rw [T]; rfl
  | d :: e :: t, hc, _ => by
    have hc' : canon (e :: t) := ⟨fun x hx => hc.1 x (List.mem_cons_of_mem _ hx), by have := hc.2; rwa [List.getLast?_cons_cons] at this⟩
    have hd : d < 10 ^ (8 + 1) := hc.1 d (List.mem_cons_self)
    have hv : 1 ≤ val (e :: t) := by
      rcases Nat.eq_zero_or_pos (val (e :: t)) with h0 | h0
      · exact absurd (canon_zero hc' h0) (by simp)
      · exact h0
    have e1 : val (d :: e :: t) = val (e :: t) * 10 ^ (8 + 1) + d := by
      rw [val_cons, Nat.add_comm, Nat.mul_comm]
    rw [T, T_law (e :: t) hc' (by simp), e1, dd_split 8 _ d hv hd]

/-- What a round writes, of len digits. -/
def piece (len : Nat) (x : Nat × Nat) : List UInt8 := if x.1 + 1 < len then padk 9 x.2 else decDigits x.2
theorem piece_T : ∀ (l : List Nat), l ≠ [] → (List.range l.length).flatMap (fun j => piece l.length (l.length - 1 - j, l[l.length - 1 - j]?.getD 0)) = T l
  | [], h => absurd rfl h
  | [d], _ => by simp [piece, T]
  | d :: e :: t, _ => by
    have ih := piece_T (e :: t) (by simp)
    have hl : (d :: e :: t).length = (e :: t).length + 1 := rfl
    rw [hl, List.range_succ, List.flatMap_append, T, ← ih]
    congr 1
    · rw [List.flatMap_def, List.flatMap_def]
      congr 1
      refine List.map_congr_left fun j hj => ?_
      have hj' : j < (e :: t).length := List.mem_range.1 hj
      have e1 : (e :: t).length + 1 - 1 - j = ((e :: t).length - 1 - j) + 1 := by omega
      rw [e1, List.getElem?_cons_succ]
      unfold piece
      simp only
      by_cases h : (e :: t).length - 1 - j + 1 < (e :: t).length
      · rw [if_pos h, if_pos (by omega)]
      · rw [if_neg h, if_neg (by omega)]
    · have e1 : (e :: t).length + 1 - 1 - (e :: t).length = 0 := by omega
      simp only [List.flatMap_cons, List.flatMap_nil, List.append_nil, e1]
      unfold piece
      simp
end Nt
end Go.Proofs.YtmapagbmihpbmaaGreatDoor

namespace Go.Proofs.YtmapagbmihpbmaaGreatDoor
open Go.RowKit Go.Shelf Go.Sort

attribute [local go_sem] Oper.semAt_some

theorem isBuilder_kept {T e : TypeId} {B b : Nat} {bs : List Value} {W W' : World} {row : Option Nat} (h : Lib.IsBuilder T e B b bs W) (hg : W.grownBy W' row) (hr : ∀ r, row = some r → ∃ o : Obj, W.heap[r]? = some o ∧ o.isCells = false) : Lib.IsBuilder T e B b bs W' := by
  have key : ∀ p, Lib.BuilderAt T e B b p bs W → Lib.BuilderAt T e B b p bs W' := fun p ⟨h1, v, h2, h3, h4⟩ => by
    refine ⟨h1, v, ?_, World.ownsRow.kept h3 hg ?_, h4⟩
    · rw [grownBy_keeps_cells hg hr h2 rfl]
      exact h2
    · cases hv : v.ownBlock with
      | none => exact .inl rfl
      | some g =>
        right
        intro e
        obtain ⟨o, ho, hc⟩ := hr g e.symm
        obtain ⟨c, fz, hk⟩ := Lib.ownsRow_kind h3 g hv
        rw [hk] at ho
        injection ho with ho
        subst ho
        cases hc
  exact h.elim (fun h => .inl (key _ h)) (fun h => .inr (key _ h))

theorem heap_new (w : World) (o : Obj) : (w.alloc o).heap[w.heap.size]? = some o := by
  show (w.heap.push o)[w.heap.size]? = some o
  simp
theorem heap_kept (w : World) (o : Obj) {k : Nat} {x : Obj} (h : w.heap[k]? = some x) : (w.alloc o).heap[k]? = some x := (Lib.alloc_old w o k (Array.getElem?_eq_some_iff.1 h).1).trans h
theorem cell_new1 (w : World) (v : Value) (t : TypeId) : (w.alloc (.cells #[v] t)).cell? ⟨w.heap.size, 0, none⟩ = some v := by simp
theorem zeros_cut (m : Nat) (h9 : m ≤ 9) (h1 : 1 ≤ m) : ((ByteArray.mk #[48, 48, 48, 48, 48, 48, 48, 48]).extract 0 (9 - m)).data.toList = List.replicate (9 - m) 48 := by
  have : ∀ k : Nat, k ≤ 8 → ((ByteArray.mk #[48, 48, 48, 48, 48, 48, 48, 48]).extract 0 k).data.toList = List.replicate k 48 := by decide
  exact this _ (by omega)
/-- What stands between two rounds of text. -/
structure Fr (S : Nat) (sv : Value) (w1 : World) (bs : List UInt8) (W : World) : Prop where
  b : Lib.IsBuilder 74 5 (S + 1) (S + 1) (Lib.byteCells bs) W
  x : W.heap[S + 2]? = some (.cells #[sv] 65 (0, 0))
  lo : Below (S + 1) w1 W

def Stp (S : Nat) (W W' : World) : Prop := KeepsOthers W W' ∧ Kb (S + 1) (S + 2) W W'
theorem Stp.trans {S : Nat} {X Y Z : World} (h : Stp S X Y) (k : Stp S Y Z) : Stp S X Z := ⟨h.1.trans k.1, h.2.trans k.2⟩
theorem Stp.refl (S : Nat) (W : World) : Stp S W W := ⟨KeepsOthers.refl W, Kb.refl _ _ W⟩

section
variable {S : Nat} {sv : Value} {w1 W W' : World} {bs : List UInt8}
theorem Fr.lt (h : Fr S sv w1 bs W) : S + 2 < W.heap.size := (Array.getElem?_eq_some_iff.1 h.x).1
theorem Fr.own {β : Type} (f : β → List UInt8) (S : Nat) (sv : Value) (w1 : World) (hw : S + 1 ≤ w1.heap.size) {B : Nat} (hB : S + 1 ≤ B) : OwnFrom B (fun s W => Fr S sv w1 (f s) W) := fun s A C row hs hg hr => by
  have hr' : ∀ r, row = some r → ∃ o : Obj, A.heap[r]? = some o ∧ o.isCells = false := fun r e => (hr r e).2
  exact ⟨isBuilder_kept hs.b hg hr', (grownBy_keeps_cells hg hr' hs.x rfl).trans hs.x, hs.lo.grown hg (Nat.le_trans hw hs.lo.size) (fun k e => Nat.le_trans hB (hr k e).1)⟩
theorem Fr.grown (h : Fr S sv w1 bs W) (k : Nat) (os : Array Obj) : Fr S sv w1 bs (grow (W.drewN k) os) ∧ Stp S W (grow (W.drewN k) os) := by
  have hlt := h.lt
  have hsz := Lib.size_grow W k os
  have hg : W.grownBy (Go.Sort.grow (W.drewN k) os) none := ⟨rfl, rfl, rfl, hsz, fun j hj _ => Lib.heap_grow_old W k os j hj⟩
  have hb := Lib.below_grow (S + 1) W (by omega) k os
  have hx := Lib.heap_grow_old W k os (S + 2) hlt
  refine ⟨⟨isBuilder_kept h.b hg (fun r e => by cases e), hx.trans h.x, h.lo.trans hb⟩, ⟨hsz, fun j o hj _ => ?_⟩, hb, hx⟩
  rw [Lib.heap_grow_old W k os j (Array.getElem?_eq_some_iff.1 hj).1]
  exact hj
theorem Fr.wrote (h : Fr S sv w1 bs W) {s : ByteArray} (hb : Lib.BuilderAt 74 5 (S + 1) (S + 1) (.pointer (some ⟨S + 1, 0, none⟩)) (Lib.byteCells bs ++ Lib.strCells s) W') (h1 : Below (S + 1) W W') (h2 : Lib.OthersKept 5 (some (S + 1)) W W') :
    Fr S sv w1 (bs ++ s.data.toList) W' ∧ Stp S W W' := by
  have hx := h2 (S + 2) _ h.x (by simp) (by intro c fz e; injection e with _ e _; exact absurd e (by decide))
  refine ⟨⟨.inr (by rw [Lib.byteCells_append]; exact hb), hx, h.lo.trans h1⟩, ⟨h1.size, fun k o hk hc => h2 k o hk ?_ ?_⟩, h1, hx.trans h.x.symm⟩
  · intro e
    injection e with e
    subst e
    rcases h.b with ⟨_, v, hv, _⟩ | ⟨_, v, hv, _⟩ <;> (rw [hv] at hk; injection hk with hk; subst hk; cases hc)
  · rintro c fz rfl
    cases hc
theorem Fr.write (h : Fr S sv w1 bs W) (hl : bs.length ≤ 9895604649984) (t : ByteArray) (ht : t.size ≤ 9) :
    Calls Tryz.prog 26 #[.pointer (some ⟨S + 1, 0, none⟩), .string t] W fun e W' => e = .returned (.tuple #[.int .i64 t.size, .nilIface]) ∧ Fr S sv w1 (bs ++ t.data.toList) W' ∧ Stp S W W' ∧ (bs ++ t.data.toList).length ≤ bs.length + 9 := by
  have hlt := h.lt
  refine (writeString_any (S + 1) (S + 1) _ t W h.b (by rw [Lib.byteCells_length]; omega) (by omega)).mono ?_
  rintro e W' ⟨rfl, h1, h2, h3⟩
  have e : t.data.toList.length = t.size := rfl
  exact ⟨rfl, (h.wrote h1 h2 h3).1, (h.wrote h1 h2 h3).2, by rw [List.length_append]; omega⟩
theorem Fr.cell (h : Fr S sv w1 bs W) (hc : w1.cell? ⟨S, 0, none⟩ = some sv) : W.cell? ⟨S, 0, none⟩ = some sv := (h.lo.cell (p := ⟨S, 0, none⟩) (Nat.lt_succ_self S)).trans hc
end

namespace Nt
def txtOf (len : Nat) (pre : List Pd) : List UInt8 := pre.flatMap fun x => piece len x.1
theorem txtOf_snoc (len : Nat) (pre : List Pd) (x : Pd) : txtOf len (pre ++ [x]) = txtOf len pre ++ piece len x.1 := by simp [txtOf]
theorem piece_len (len : Nat) (x : Pd) : (piece len x.1).length ≤ 9 := by
  have h := dd_len x.2
  unfold piece padk
  split <;> simp <;> omega
theorem txtOf_len (len : Nat) (pre : List Pd) : (txtOf len pre).length ≤ 9 * pre.length := by
  induction pre with
  | nil => simp [txtOf]
  | cons x t ih =>
    have h := piece_len len x
    have e : txtOf len (x :: t) = piece len x.1 ++ txtOf len t := by simp [txtOf]
    rw [e, List.length_append, List.length_cons]
    omega
/-- The text of digits. -/
def txt (l : List Nat) (h : dig l) : List UInt8 := if l = [] then [48] else txtOf l.length (comes l h)
theorem txt_law (n : Nat) : txt (digs n) (digs_canon n).1 = Lib.decDigits n := by
  unfold txt
  by_cases h : digs n = []
  · rw [if_pos h]
    have : n = 0 := by have := val_digs n; rw [h] at this; exact this.symm
    subst this
    rw [Lib.decDigits_one (by omega)]
    rfl
  · rw [if_neg h]
    have h1 := T_law (digs n) (digs_canon n) h
    rw [val_digs, ← piece_T _ h] at h1
    rw [← h1]
    unfold txtOf comes upto
    rw [List.flatMap_map]
end Nt

set_option maxRecDepth 100000 in
set_option maxHeartbeats 4000000 in
theorem text_any (v : Value) (l : List Nat) (hl : Nt.dig l) (w : World) (h : Nv w v l) (htab : Lib.TabIs Tryz.prog w "internal/strconv.uint64pow10" .u64 Lib.pow10Tab) :
    Calls Tryz.prog 80 #[v] w fun e w' => e = .returned (.string ⟨(Nt.txt l hl).toArray⟩) ∧ Below w.heap.size w w' := by
  have hlen := h.len
  have HN := Lib.hid h
  obtain ⟨A, c, rfl, -, -, -, -⟩ := h.ex
  have HT := Lib.hid htab
  clear h htab
  refine (callsIn_wide (n := 3)).1 ?_
  refine callsIn_of_wp_marks Tryz.func80 rfl trivial ?_ rfl
  simp only [Tryz.ntmps80, List.size_toArray, List.length_cons, List.length_nil, Nat.reduceAdd, Nat.reduceSub, Array.replicate_succ, Array.replicate_zero, List.push_toArray, List.append_toArray, List.nil_append, List.cons_append]
  rcases Nat.eq_zero_or_pos l.length with h0 | hpos
  · have hz : ((l.length : Int) == 0) = true := by rw [beq_iff_eq]; omega
    have e : l = [] := List.eq_nil_of_length_eq_zero h0
    have HE := Lib.hid e
    clear e h0
    gi_wp2_with (first | (refine ⟨trivial, ?_⟩; gi_at_call 75; refine (callsIn_wide.2 (zero_any _ _ _ _)).mono ?_; rintro e w1 ⟨rfl, rfl⟩))
    refine ⟨.string ⟨#[48]⟩, results_tmp (fn := Tryz.f80) (t := 2) rfl _ _ _, ?_, ?_⟩
    · unfold Nt.txt
      rw [if_pos HE.out]
    · exact (Below.refl _ _).alloc (Nat.le_refl _) _
  have hz : ((l.length : Int) == 0) = false := by rw [beq_eq_false_iff_ne]; omega
  gi_wp2_with (first | (refine ⟨trivial, ?_⟩; gi_at_call 75; refine (callsIn_wide.2 (zero_any _ _ _ _)).mono ?_; rintro e w1 ⟨rfl, rfl⟩) | (refine ⟨trivial, ?_⟩; gi_at_call 105; refine (backward_in Fence.wide _ trivial rfl _ _ _ _).mono ?_; rintro e w2 ⟨rfl, rfl⟩))
  obtain ⟨W0, hW0⟩ : ∃ W0, (((w.alloc (.cells #[.slice A l.length c] 65)).alloc (.cells #[.pointer none, .slice none 0 0] 74)).alloc (.cells #[.slice A l.length c] 65)) = W0 := ⟨_, rfl⟩
  have hsz : W0.heap.size = w.heap.size + 3 := by subst hW0; simp
  have hb0 : Below (w.heap.size + 1) (w.alloc (.cells #[.slice A l.length c] 65)) W0 := by
    subst hW0
    exact ((Below.refl _ _).alloc (by simp) _).alloc (by simp) _
  have hbw : Below w.heap.size w W0 := ((Below.refl _ _).alloc (Nat.le_refl _) _).trans (hb0.mono (by simp))
  have hc0 : (w.alloc (.cells #[.slice A l.length c] 65)).cell? ⟨w.heap.size, 0, none⟩ = some (.slice A l.length c) := by simp
  have hc2 : W0.cell? ⟨w.heap.size + 2, 0, none⟩ = some (.slice A l.length c) := by
    subst hW0
    have := cell_new1 ((w.alloc (.cells #[.slice A l.length c] 65)).alloc (.cells #[.pointer none, .slice none 0 0] 74)) (.slice A l.length c) 65
    simpa using this
  have hx0 : W0.heap[w.heap.size + 2]? = some (.cells #[.slice A l.length c] 65 (0, 0)) := by
    subst hW0
    have := heap_new ((w.alloc (.cells #[.slice A l.length c] 65)).alloc (.cells #[.pointer none, .slice none 0 0] 74)) (.cells #[.slice A l.length c] 65)
    rw [World.size_alloc, World.size_alloc] at this
    exact this
  have hf0 : Fr w.heap.size (.slice A l.length c) (w.alloc (.cells #[.slice A l.length c] 65)) [] W0 := by
    refine ⟨.inl ⟨Nat.le_refl _, .slice none 0 0, ?_, World.ownsRow_nil _ _ _ _, by intro e; cases e⟩, hx0, hb0⟩
    have := heap_kept _ (.cells #[.slice A l.length c] 65) (heap_new (w.alloc (.cells #[.slice A l.length c] 65)) (.cells #[.pointer none, .slice none 0 0] 74))
    rw [World.size_alloc, hW0] at this
    exact this
  rw [hW0]
  clear hW0
  have hTB := Lib.tabBelow_of_tabIs HT.out
  refine wpIn_rangeFunc_ownG rfl (by omega) (gf := 123) (lb := #[.pointer (some ⟨w.heap.size + 1 + 1, 0, none⟩)]) rfl trivial (enters_of Tryz.func123 (by kernel_rfl) rfl)
    (back_stops Fence.wide _ trivial rfl (by omega) (w.heap.size + 1 + 1) (w.heap.size + 1) _ l hl (w.alloc (.cells #[.slice A l.length c] 65)) W0 (by omega) (by simp) hc2 (HN.out.below ((Below.refl _ w).alloc (Nat.le_refl _) _)) hb0) Kb.trans (kb_b (by omega) (by omega)) (Below.refl _ _) (fun _ => rfl)
    (fun pre W => Fr w.heap.size (.slice A l.length c) (w.alloc (.cells #[.slice A l.length c] 65)) (Nt.txtOf l.length pre) W)
    (fun _ _ _ => False)
    (Fr.own (fun pre => Nt.txtOf l.length pre) _ _ _ (by simp) (by omega))
    (fun _ _ _ _ _ hs _ _ => hs)
    hf0
    (fun x => { tmps := #[.slice A l.length c, .pointer (some ⟨w.heap.size, 0, none⟩), .string ⟨#[]⟩, .pointer (some ⟨w.heap.size + 1, 0, none⟩), .int .i64 (x.1.1 : Int), .int .u32 (x.1.2 : Int), undef, .slice A l.length c, .bool false, .slice A l.length c, .func (.func 123) #[] #[.pointer (some ⟨w.heap.size + 1 + 1, 0, none⟩)], .int .i64 (x.1.1 : Int), .int .u32 (x.1.2 : Int), undef, undef, undef, undef, undef, undef, undef, undef, undef, undef, undef, undef, undef, undef, undef, undef], defers := [] }) ?assign ?body ?done ?stop
  case assign =>
    intro k x W K hK
    gi_wp2
    exact hK
  case body =>
    rintro k pre x W hF hpl
    obtain ⟨⟨i, d⟩, hd⟩ := x
    dsimp only at hd ⊢
    have hd9 : (d : Int) ≤ 999999999 := by have : d < 1000000000 := hd; omega
    have hm1 := Nt.dd_len hd
    have hm0 := Nt.dd_pos d
    have HIt : Calls Tryz.prog 20 #[.int .i64 (d : Int)] W fun e W' => ∃ s : ByteArray, e = .returned (.string s) ∧ s.size ≤ 9 ∧ 1 ≤ s.size ∧ s.data.toList = Lib.decDigits d ∧ Fr w.heap.size (.slice A l.length c) (w.alloc (.cells #[.slice A l.length c] 65)) (Nt.txtOf l.length pre) W' ∧ Stp w.heap.size W W' := by
      refine (Tryz.strconv_Itoa (d : Int) (by omega) (by omega) W (hTB W ?_)).mono ?_
      · exact ((Below.refl _ _).alloc (Nat.le_refl _) _).trans (hF.lo.mono (by simp))
      · rintro e W' ⟨rfl, q, os, rfl⟩
        refine ⟨_, rfl, ?_, ?_, ?_, (hF.grown q os).1, (hF.grown q os).2⟩
        · rw [Lib.itoa_nonneg]; exact hm1
        · rw [Lib.itoa_nonneg]; exact hm0
        · rw [Lib.itoa_nonneg]
    have HIt := Lib.hid HIt
    have hbl : (Nt.txtOf l.length pre).length + 9 ≤ 9 * l.length := by
      have := Nt.txtOf_len l.length pre
      omega
    have HF := Lib.hid hF
    clear hF hm1 hm0
    gi_wp2_with (first | (refine ⟨trivial, ?_⟩; gi_at_call 20; refine (CallsIn.inRound k (callsIn_wide.2 HIt.out)).mono ?_; rintro e W2 ⟨s, rfl, hm9, hm1, hsl, hF2, hS2⟩; have c2 := hF2.cell hc0; have l2 := hF2.lt; have HF2 := Lib.hid hF2; have HS2 := Lib.hid hS2; have HSL := Lib.hid hsl; clear hF2 hS2 hsl) | (refine ⟨trivial, ?_⟩; gi_at_call 26; first | ((with_reducible refine (CallsIn.inRound k (callsIn_wide.2 (HF2.out.write ?_ _ ?_))).mono ?_); omega; (first | omega | (simp [ByteArray.size_extract]; omega)); rintro e W3 ⟨rfl, hF3, hS3, b3⟩; have HF3 := Lib.hid hF3; have HS3 := Lib.hid hS3; have l3 := hF3.lt; have HB3 := Lib.hid b3; clear hF3 hS3 b3) | ((with_reducible refine (CallsIn.inRound k (callsIn_wide.2 (HF3.out.write ?_ _ ?_))).mono ?_); (have := HB3.out; omega); omega; rintro e W4 ⟨rfl, hF4, hS4, b4⟩; have HF4 := Lib.hid hF4; have HS4 := Lib.hid hS4; have l4 := hF4.lt; clear hF4 hS4)))
    · have hi : (i : Int) < (l.length : Int) - 1 := by assumption
      have hS := HS2.out.trans (HS3.out.trans HS4.out)
      refine ⟨hS.1.from _, hS.2, ?_⟩
      have hF4 := HF4.out
      dsimp only
      rw [Nt.txtOf_snoc, Nt.piece, if_pos (by dsimp only; omega), Nt.padk]
      have el : s.size = (Lib.decDigits d).length := by rw [← HSL.out]; rfl
      rw [zeros_cut _ hm9 hm1, HSL.out, el, List.append_assoc] at hF4
      exact hF4
    · have hi : (l.length : Int) - 1 ≤ (i : Int) := by assumption
      have hS := HS2.out.trans HS3.out
      refine ⟨hS.1.from _, hS.2, ?_⟩
      have hF3 := HF3.out
      dsimp only
      rw [Nt.txtOf_snoc, Nt.piece, if_neg (by dsimp only; omega)]
      rw [HSL.out] at hF3
      exact hF3
  case done =>
    rintro D xs W hD rfl hF hK
    have HF := Lib.hid hF
    clear hF
    gi_wp2_with (first | (refine ⟨trivial, ?_⟩; gi_at_call 28; refine (callsIn_wide.2 (Tryz.Builder_String_any_k (w.heap.size + 1) (w.heap.size + 1) _ _ (Lib.IsBuilderF.of HF.out.b) (by have := HF.out.lt; omega))).mono ?_; rintro e W2 ⟨rfl, -, hb2, hk2⟩))
    have hK2 : W2.heap[D]? = some (.deferred (some [])) := hk2 D _ hK (fun e => by injection e with e; omega) (fun c fz e => by cases e)
    refine ⟨by simp, .inl ⟨_, _, rfl, run_takeDeferred hK2, ?_⟩⟩
    refine ⟨_, results_tmp rfl _ _ _, ?_, ?_⟩
    · unfold Nt.txt
      rw [if_neg (by intro e; rw [e] at hpos; simp at hpos)]
      rfl
    · have h1 : Below w.heap.size w W := ((Below.refl _ _).alloc (Nat.le_refl _) _).trans (HF.out.lo.mono (by simp))
      exact (h1.trans (hb2.mono (by omega))).trans (belowK_b (w := w) (Nat.le_refl _) W2 D _ _ (by omega) hK2 rfl rfl)
  case stop =>
    rintro D c pre W _ _ h _
    exact h.elim

/-- (nat).text: the decimal numeral. -/
theorem text_n (v : Value) (n : Nat) (w : World) (h : Nv w v (Nt.digs n)) (htab : Lib.TabIs Tryz.prog w "internal/strconv.uint64pow10" .u64 Lib.pow10Tab) :
    Calls Tryz.prog 80 #[v] w fun e w' => e = .returned (.string ⟨(Lib.decDigits n).toArray⟩) ∧ Below w.heap.size w w' := by
  rw [← Nt.txt_law n]
  exact text_any v _ _ w h htab
end Go.Proofs.YtmapagbmihpbmaaGreatDoor

namespace Go.Proofs.YtmapagbmihpbmaaGreatDoor
open Go.RowKit Go.Shelf

namespace Nt
open Go.Lib
theorem isD_of {n : Nat} (h : n < 10) : isD (UInt8.ofNat (48 + n)) ∧ (UInt8.ofNat (48 + n)).toNat - 48 = n := by
  have e : (UInt8.ofNat (48 + n)).toNat = 48 + n := by simp [UInt8.toNat_ofNat]; omega
  exact ⟨⟨by rw [e]; omega, by rw [e]; omega⟩, by rw [e]; omega⟩
theorem dd_law : ∀ (m n : Nat), n ≤ m → allD (decDigits n) ∧ dval (decDigits n) = n
  | m, n, hm => by
    by_cases h : n < 10
    · rw [decDigits_one h]
      refine ⟨fun c hc => by obtain rfl := List.mem_singleton.1 hc; exact (isD_of h).1, ?_⟩
      have := (isD_of h).2
      simp [dval]; simpa using this
    · match m, hm with
      | 0, hm => omega
      | m + 1, hm =>
        have e : decDigits n = decDigits (n / 10) ++ [UInt8.ofNat (48 + n % 10)] := by rw [decDigits, dif_neg h]
        have hd : n % 10 < 10 := Nat.mod_lt _ (by omega)
        obtain ⟨h1, h2⟩ := dd_law m (n / 10) (by omega)
        rw [e]
        refine ⟨fun c hc => ?_, ?_⟩
        · rcases List.mem_append.1 hc with h | h
          · exact h1 c h
          · obtain rfl := List.mem_singleton.1 h
            exact (isD_of hd).1
        · rw [dval_append, h2]
          have e2 : dval [UInt8.ofNat (48 + n % 10)] = n % 10 := by
            have := (isD_of hd).2
            simp only [dval, List.foldl_cons, List.foldl_nil]
            omega
          rw [e2]
          simp
          omega
theorem allD_dd (n : Nat) : allD (decDigits n) := (dd_law n n (Nat.le_refl _)).1
theorem dval_dd (n : Nat) : dval (decDigits n) = n := (dd_law n n (Nat.le_refl _)).2
theorem dval_cons (c : UInt8) (t : List UInt8) : dval (c :: t) = (c.toNat - 48) * 10 ^ t.length + dval t := by
  have := dval_append [c] t
  simpa [dval] using this
theorem ofNat_sub {c : UInt8} (h : isD c) : UInt8.ofNat (48 + (c.toNat - 48)) = c := by
  have e : 48 + (c.toNat - 48) = c.toNat := by have := h.1; omega
  rw [e]
  simp
/-- No wrong zero. -/
theorem dd_dval : ∀ (k : Nat) (l : List UInt8), l.length = k → allD l → l ≠ [] → (1 < l.length → l.head? ≠ some 48) → decDigits (dval l) = l
  | k, l, hk, ha, h0, hz => by
    rcases List.eq_nil_or_concat l with rfl | ⟨t, c, rfl⟩
    · exact absurd rfl h0
    · have hc : isD c := ha c (by simp)
      have hc9 : c.toNat - 48 < 10 := by have := hc.2; omega
      have e : dval (t.concat c) = dval t * 10 + (c.toNat - 48) := by
        rw [List.concat_eq_append, dval_append]
        simp [dval]
      rw [e]
      cases t with
      | nil =>
        have e0 : dval [] * 10 + (c.toNat - 48) = c.toNat - 48 := by simp [dval]
        rw [e0, decDigits_one hc9, ofNat_sub hc]
        rfl
      | cons x t =>
        match k, hk with
        | 0, hk => simp at hk
        | k + 1, hk =>
          have hx : x ≠ 48 := by
            have := hz (by simp)
            intro e; exact this (by simp [e])
          have hxD : isD x := ha x (by simp)
          have hx1 : 1 ≤ x.toNat - 48 := by
            have h1 := hxD.1
            rcases Nat.lt_or_ge 48 x.toNat with h | h
            · omega
            · exact absurd (UInt8.toNat_inj.1 (by show x.toNat = 48; omega)) hx
          have hv : 1 ≤ dval (x :: t) := by
            rw [dval_cons]
            have hp : 1 ≤ 10 ^ t.length := Nat.one_le_pow _ _ (by decide)
            have := Nat.mul_le_mul hx1 hp
            omega
          have ih := dd_dval k (x :: t) (by simpa using hk) (fun y hy => ha y (by simp [List.concat_eq_append]; simp at hy; rcases hy with h | h; exact .inl h; exact .inr (.inl h))) (by simp) (fun _ => by simp; exact hx)
          rw [decDigits, dif_neg (by omega)]
          have e1 : (dval (x :: t) * 10 + (c.toNat - 48)) / 10 = dval (x :: t) := by omega
          have e2 : (dval (x :: t) * 10 + (c.toNat - 48)) % 10 = c.toNat - 48 := by omega
          rw [e1, e2, ih, ofNat_sub hc, List.concat_eq_append]
/-- A numeral. -/
def Dn (l : List UInt8) : Prop := ∃ n, l = decDigits n
theorem dd_ne (n : Nat) : decDigits n ≠ [] := by
  intro e
  have := dd_pos n
  rw [e] at this
  simp at this
theorem dd_head (n : Nat) (h : 1 < (decDigits n).length) : (decDigits n).head? ≠ some 48 := by
  intro e
  have h1 : ∃ t, decDigits n = 48 :: t := by
    cases hd : decDigits n with
    | nil => exact absurd hd (dd_ne n)
    | cons c t => rw [hd] at e; simp at e; exact ⟨t, by rw [e]⟩
  obtain ⟨t, ht⟩ := h1
  have ha := allD_dd n
  have hv := dval_dd n
  rw [ht] at ha hv h
  rw [dval_cons] at hv
  have hlt := dval_lt (l := t) (fun c hc => ha c (by simp [hc]))
  have hl : (decDigits n).length ≤ t.length := by
    obtain ⟨j, hj⟩ : ∃ j, t.length = j + 1 := ⟨t.length - 1, by simp at h; omega⟩
    rw [hj]
    refine dd_le ?_
    rw [← hj]
    have : (48 : UInt8).toNat = 48 := rfl
    rw [this] at hv
    omega
  rw [ht] at hl
  simp at hl
  omega
theorem dn_iff {l : List UInt8} : Dn l ↔ allD l ∧ l ≠ [] ∧ (1 < l.length → l.head? ≠ some 48) :=
  ⟨fun ⟨n, e⟩ => by subst e; exact ⟨allD_dd n, dd_ne n, dd_head n⟩, fun ⟨h1, h2, h3⟩ => ⟨dval l, (dd_dval _ l rfl h1 h2 h3).symm⟩⟩

def ten10 : List UInt8 := [48, 49, 50, 51, 52, 53, 54, 55, 56, 57]
theorem ten10_iff (c : UInt8) : ten10.contains c = true ↔ isD c := by
  constructor
  · intro h
    simp [ten10] at h
    rcases h with h | h | h | h | h | h | h | h | h | h <;> (subst h; unfold isD; decide)
  · intro ⟨h1, h2⟩
    have : ∀ n : Fin 58, 48 ≤ n.val → ten10.contains (UInt8.ofNat n.val) = true := by decide
    have := this ⟨c.toNat, by omega⟩ h1
    simpa using this
theorem dropWhile_nil {α : Type} (p : α → Bool) : ∀ l : List α, l.dropWhile p = [] ↔ ∀ x ∈ l, p x = true
  | [] => by simp
  | x :: t => by
    rw [List.dropWhile_cons]
    by_cases h : p x = true
    · simp [h, dropWhile_nil p t]
    · simp [h]
theorem trim_nil (l : List UInt8) : Lib.trimS l ten10 = [] ↔ allD l := by
  unfold Lib.trimS Lib.trimLeftS Lib.trimRightS
  rw [dropWhile_nil]
  constructor
  · intro h c hc
    rw [← ten10_iff]
    by_cases hr : l.reverse.dropWhile (ten10.contains ·) = []
    · rw [dropWhile_nil] at hr
      exact hr c (by simpa using hc)
    · cases hd : l.reverse.dropWhile (ten10.contains ·) with
      | nil => exact absurd hd hr
      | cons x t =>
        have h1 : ten10.contains x = true := h x (by rw [hd]; simp)
        have h2 := List.head?_dropWhile_not (ten10.contains ·) l.reverse
        rw [hd] at h2
        simp at h2
        simp [h2] at h1
  · intro h
    have : l.reverse.dropWhile (ten10.contains ·) = [] := by
      rw [dropWhile_nil]
      intro c hc
      exact (ten10_iff c).2 (h c (by simpa using hc))
    rw [this]
    simp
end Nt

set_option maxRecDepth 100000 in
theorem trim_v (s : ByteArray) (w : World) (hs : s.size ≤ 9223372036854775807) :
    Calls Tryz.prog 121 #[.string s, .string ⟨#[48, 49, 50, 51, 52, 53, 54, 55, 56, 57]⟩] w fun e w' => e = .returned (.string ⟨(Lib.trimS s.data.toList Nt.ten10).toArray⟩) ∧ Below w.heap.size w w' :=
  Any.strings_Trim_laid Tryz.lays160 (by kernel_rfl) s ⟨#[48, 49, 50, 51, 52, 53, 54, 55, 56, 57]⟩ w hs (by decide) (ascii_of_all (by decide))

def DigRet (l : List UInt8) (w : World) (e : Ending) (w' : World) : Prop := ∃ b : Bool, e = .returned (.bool b) ∧ (b = true ↔ Nt.Dn l) ∧ Below w.heap.size w w'

set_option maxRecDepth 100000 in
theorem digits_any (s : ByteArray) (w : World) (hs : s.size ≤ 9223372036854775807) :
    Calls Tryz.prog 101 #[.string s] w (DigRet s.data.toList w) := by
  have HT := Lib.hid (trim_v s w hs)
  have htn := Nt.trim_nil s.data.toList
  have HN := Lib.hid htn
  clear htn
  obtain ⟨⟨l⟩⟩ := s
  cases l with
  | nil =>
    go_enter Tryz.func101, Tryz.ntmps101
    go_wp2
    go_ret
    exact ⟨false, rfl, ⟨fun h => (by cases h), fun h => absurd rfl (Nt.dn_iff.1 h).2.1⟩, Below.refl _ _⟩
  | cons c t =>
    have key : (1 < (c :: t).length → c ≠ 48) → ((Lib.trimS (c :: t) Nt.ten10).isEmpty = true ↔ Nt.Dn (c :: t)) := fun h => by
      rw [List.isEmpty_iff, HN.out, Nt.dn_iff]
      exact ⟨fun h1 => ⟨h1, by simp, fun h2 e => h h2 (by simpa using e)⟩, fun h1 => h1.1⟩
    go_enter Tryz.func101, Tryz.ntmps101
    go_wp2_with (go_at_call 121; refine HT.out.mono ?_; rintro e w2 ⟨rfl, hb⟩)
    · rename ((_ : Nat) : Int) = 48 => h1
      have h1' : (c.toNat : Int) = 48 := h1
      have h2 : 1 < (t.length : Int) + 1 := by assumption
      go_ret
      refine ⟨false, rfl, ⟨fun h => (by cases h), fun h => absurd ?_ ((Nt.dn_iff.1 h).2.2 (by simp; omega))⟩, Below.refl _ _⟩
      have e : c = 48 := UInt8.toNat_inj.1 (by show c.toNat = 48; omega)
      rw [e]
      rfl
    · have h2 : (t.length : Int) + 1 ≤ 1 := by assumption
      go_ret
      exact ⟨_, rfl, key (fun h => by simp at h; omega), hb⟩
    · rename ¬ ((_ : Nat) : Int) = 48 => h1
      have h1' : ¬ (c.toNat : Int) = 48 := h1
      go_ret
      exact ⟨_, rfl, key (fun _ e => h1' (by rw [e]; rfl)), hb⟩
end Go.Proofs.YtmapagbmihpbmaaGreatDoor
