/- Plain: the keys of a pivot table, a key's place, its records. -/
import Derived.Test.YtmapagbmihpbmaaGreatDoorGah
import Derived.Test.YtmapagbmihpbmaaGreatDoorGai
import Derived.Test.YtmapagbmihpbmaaGreatDoorGaa
import Derived.Test.YtmapagbmihpbmaaGreatDoorGak
import Derived.Test.YtmapagbmihpbmaaGreatDoorGab
import Derived.Test.YtmapagbmihpbmaaGreatDoorLoc
import Derived.Test.YtmapagbmihpbmaaGreatDoorGal
import Derived.Deep.RegionLaw
import Derived.Deep.AppendLies
import Derived.Deep.DeepCutAuto
import Derived.Test.YtmapagbmihpbmaaGreatDoorGam
import Derived.Test.YtmapagbmihpbmaaGreatDoorGag
set_option linter.unusedSimpArgs false
set_option linter.unusedVariables false
namespace Go.Proofs.YtmapagbmihpbmaaGreatDoor
open Go.RowKit

instance : Inhabited Vl := ⟨⟨0, ⟨#[]⟩, ⟨#[]⟩, ⟨#[]⟩, false, 0, 0, 0, none, 0, 0⟩⟩
noncomputable def keysP (l : List Vl) : List Vl := Pv.cmpct ordV (Sq.ins ordV l.toArray 0 l.length).toList
noncomputable def placeP (K : List Vl) (u : Vl) : Nat := Sq.bs (fun h => decide (ordV K[h]! u < 0)) 0 K.length
theorem tot_ok : Pv.Tot ordV Vl.ok := ⟨fun _ _ ha hb => (ordV_law ha hb ha).1, fun _ _ _ ha hb hc h1 h2 => by rcases (ordV_law ha hb hc).2.1 with h | h | h <;> omega⟩
theorem cmpct_mem {α : Type} (cf : α → α → Int) (l : List α) : ∀ x ∈ Pv.cmpct cf l, x ∈ l := by
  cases l with
  | nil => intro x h; exact h
  | cons y t =>
    intro x h
    rcases List.mem_cons.1 h with rfl | h
    · exact List.mem_cons_self ..
    · exact List.mem_cons_of_mem _ (Pv.cpt_mem cf t y x h)
theorem cmpct_len {α : Type} (cf : α → α → Int) (l : List α) : (Pv.cmpct cf l).length ≤ l.length := by
  cases l with
  | nil => exact Nat.le_refl _
  | cons y t => exact Nat.succ_le_succ (Pv.cpt_len cf t y)
theorem cmpct_pos {α : Type} (cf : α → α → Int) (l : List α) (h : 0 < l.length) : 0 < (Pv.cmpct cf l).length := by
  cases l with
  | nil => exact absurd h (by simp)
  | cons y t => exact Nat.succ_pos _
theorem ins_mem (l : List Vl) (u : Vl) : u ∈ (Sq.ins ordV l.toArray 0 l.length).toList ↔ u ∈ l := by
  have := (Sq.ins_perm ordV l.toArray 0 l.length).mem_iff (a := u)
  simpa using this
theorem keysP_mem (l : List Vl) : ∀ u ∈ keysP l, u ∈ l := fun u hu => (ins_mem l u).1 (cmpct_mem _ _ u hu)
theorem keysP_len (l : List Vl) : (keysP l).length ≤ l.length := by
  have h1 := cmpct_len ordV (Sq.ins ordV l.toArray 0 l.length).toList
  have h2 : (Sq.ins ordV l.toArray 0 l.length).toList.length = l.length := by rw [Array.length_toList, Sq.ins_len]; simp
  exact Nat.le_trans h1 (Nat.le_of_eq h2)
theorem keysP_pos (l : List Vl) (h : 0 < l.length) : 0 < (keysP l).length := by
  refine cmpct_pos _ _ ?_
  rw [Array.length_toList, Sq.ins_len]
  simpa using h
theorem getLastD_get {α : Type} [Inhabited α] : ∀ (l : List α) (a : α), (a :: l)[l.length]! = l.getLastD a
  | [], _ => rfl
  | x :: t, a => by
    rw [List.getLastD_cons, ← getLastD_get t x]
    rfl
theorem place_lt (l : List Vl) (hok : ∀ u ∈ l, u.ok) (u : Vl) (hu : u ∈ l) : placeP (keysP l) u < (keysP l).length := by
  have hpos : 0 < l.length := List.length_pos_of_mem hu
  have hget : ∀ (m : Array Vl) q, q < m.size → m[q]! ∈ m.toList := fun m q hq => by
    rw [getElem!_pos m q hq]; exact Array.getElem_mem_toList hq
  have hP : ∀ q, q < l.toArray.size → Vl.ok l.toArray[q]! := fun q hq => hok _ (by simpa using hget l.toArray q hq)
  obtain ⟨h1, h2⟩ := Pv.ins_last tot_ok l.toArray (by simpa using hpos) hP
  rw [show l.toArray.size = l.length by simp] at h2
  have hlen := Sq.ins_len ordV l.toArray 0 l.length
  rw [show l.toArray.size = l.length by simp] at hlen h1
  have hmem := (ins_mem l u).2 hu
  have hkp := keysP_pos l hpos
  refine Pv.bs_in _ _ hkp (decide_eq_false fun hc => ?_)
  have hkm := keysP_mem l
  unfold keysP at hc hkp hkm
  generalize hL : Sq.ins ordV l.toArray 0 l.length = L at hc h1 h2 hmem hlen hkp hkm
  obtain ⟨L⟩ := L
  simp only at hmem hc hkp hkm
  cases L with
  | nil => simp at hlen; omega
  | cons y t =>
    have hn : l.length - 1 = t.length := by simp at hlen; omega
    rw [hn] at h2
    have e1 : (⟨y :: t⟩ : Array Vl)[t.length]! = t.getLastD y := by rw [← getLastD_get t y]; simp
    have hLok : ∀ x ∈ y :: t, Vl.ok x := fun x hx => hok x ((ins_mem l x).1 (by rw [hL]; exact hx))
    have hyok := hLok y (List.mem_cons_self ..)
    have htok : ∀ x ∈ t, Vl.ok x := fun x hx => hLok x (List.mem_cons_of_mem _ hx)
    have hz : ordV (t.getLastD y) ((Pv.cpt ordV y t).getLastD y) = 0 := Pv.cpt_last tot_ok t y y hyok hyok htok (by have := tot_ok.anti y y hyok hyok; omega)
    have e2 : (Pv.cmpct ordV (y :: t))[(Pv.cmpct ordV (y :: t)).length - 1]! = (Pv.cpt ordV y t).getLastD y := by
      show (y :: Pv.cpt ordV y t)[(Pv.cpt ordV y t).length]! = _
      exact getLastD_get _ _
    rw [e2] at hc
    have hlast : t.getLastD y ∈ y :: t := by
      rw [← getLastD_get t y, getElem!_pos (y :: t) t.length (by simp)]
      exact List.getElem_mem _
    have hlast2 : (Pv.cpt ordV y t).getLastD y ∈ y :: t := cmpct_mem ordV (y :: t) _ (by
      show _ ∈ y :: Pv.cpt ordV y t
      rw [← getLastD_get, getElem!_pos (y :: Pv.cpt ordV y t) _ (by simp)]
      exact List.getElem_mem _)
    obtain ⟨k, hk, hku⟩ := List.getElem_of_mem hmem
    have h3 := h2 k (by simp at hk; omega)
    rw [e1] at h3
    have e3 : (⟨y :: t⟩ : Array Vl)[k]! = u := by
      rw [← hku]
      have hk' : k < (y :: t).length := by simpa using hk
      rw [getElem!_pos (⟨y :: t⟩ : Array Vl) k (by simpa using hk')]
      rfl
    rw [e3] at h3
    have uok := hok u hu
    have a1 := tot_ok.trans u (t.getLastD y) _ uok (hLok _ hlast) (hLok _ hlast2) h3 (by omega)
    have a2 := tot_ok.anti u _ uok (hLok _ hlast2)
    omega
/-- A record. -/
structure Rm where
  at_ : Nat
  row : Nat
  col : Nat
  v : Vl
def rmC (r : Rm) : List Value := .int .i64 r.at_ :: .int .i64 r.row :: .int .i64 r.col :: r.v.cs.toList
theorem rmC_len (r : Rm) : (rmC r).length = 12 := rfl
/-- The items of a column, the header's left out. -/
def colL (us : List Vl) (c R : Nat) : List Vl := (List.range R).map fun i => us[(i + 1) * 3 + c]!
theorem colL_len (us : List Vl) (c R : Nat) : (colL us c R).length = R := by simp [colL]
theorem colL_get (us : List Vl) (c R i : Nat) (h : i < R) : us[(i + 1) * 3 + c]! ∈ colL us c R := List.mem_map.2 ⟨i, List.mem_range.2 h, rfl⟩
noncomputable def recP (us : List Vl) (cr cc R : Nat) (i : Nat) : Rm := ⟨i + 1, placeP (keysP (colL us cr R)) us[(i + 1) * 3 + cr]!, placeP (keysP (colL us cc R)) us[(i + 1) * 3 + cc]!, us[(i + 1) * 3 + 2]!⟩
noncomputable def recsP (us : List Vl) (cr cc R : Nat) : List Rm := (List.range R).map (recP us cr cc R)
end Go.Proofs.YtmapagbmihpbmaaGreatDoor

namespace Go.Proofs.YtmapagbmihpbmaaGreatDoor.Pv
open Go Go.Proofs.YtmapagbmihpbmaaGreatDoor.Sq

section
variable {α : Type} [Inhabited α] {cf : α → α → Int}
def Srt (cf : α → α → Int) (l : Array α) (m : Nat) : Prop := ∀ p q, p < q → q ≤ m → cf l[p]! l[q]! ≤ 0
def SJ (cf : α → α → Int) (l : Array α) (m j : Nat) : Prop := (∀ p q, p < q → q ≤ m → p ≠ j → q ≠ j → cf l[p]! l[q]! ≤ 0) ∧ ∀ q, j < q → q ≤ m → cf l[j]! l[q]! ≤ 0
theorem get_mem (l : Array α) (q : Nat) (h : q < l.size) : l[q]! ∈ l := by
  rw [getElem!_pos l q h]
  exact Array.getElem_mem h
theorem insJ_srt {P : α → Prop} (ht : Tot cf P) (m : Nat) : ∀ (j : Nat) (l : Array α), j ≤ m → m < l.size → (∀ x ∈ l, P x) → SJ cf l m j → Srt cf (insJ cf 0 j l) m
  | 0, l, _, _, _, h => fun p q hpq hq => by
    rw [insJ]
    by_cases e : p = 0
    · subst e
      exact h.2 q hpq hq
    · exact h.1 p q hpq hq e (by omega)
  | j + 1, l, hj, hm, hP, h => by
    rw [insJ]
    by_cases hc : 0 < j + 1 ∧ cf l[j + 1]! l[j]! < 0
    · rw [if_pos hc]
      refine insJ_srt ht m j _ (by omega) (by rw [sw_len]; exact hm) (fun x hx => hP x ((sw_perm l (j + 1) j).mem_iff.1 hx)) ⟨fun p q hpq hq hp hq' => ?_, fun q hq hqm => ?_⟩
      · rw [swp_at l (j + 1) j (by omega) (by omega), swp_at l (j + 1) j (by omega) (by omega), if_neg hp, if_neg hq']
        by_cases e1 : p = j + 1
        · rw [if_pos e1, if_neg (by omega)]
          exact h.1 j q (by omega) hq (by omega) (by omega)
        · rw [if_neg e1]
          by_cases e2 : q = j + 1
          · rw [if_pos e2]
            exact h.1 p j (by omega) (by omega) (by omega) (by omega)
          · rw [if_neg e2]
            exact h.1 p q hpq hq e1 e2
      · rw [swp_at l (j + 1) j (by omega) (by omega), swp_at l (j + 1) j (by omega) (by omega), if_pos rfl, if_neg (by omega)]
        by_cases e2 : q = j + 1
        · rw [if_pos e2]
          omega
        · rw [if_neg e2]
          exact h.2 q (by omega) hqm
    · rw [if_neg hc]
      have hge : cf l[j]! l[j + 1]! ≤ 0 := by
        have := ht.anti l[j]! l[j + 1]! (hP _ (get_mem l j (by omega))) (hP _ (get_mem l (j + 1) (by omega)))
        omega
      intro p q hpq hq
      by_cases e1 : p = j + 1
      · rw [e1]
        exact h.2 q (by omega) hq
      · by_cases e2 : q = j + 1
        · rw [e2]
          by_cases e3 : p = j
          · rw [e3]
            exact hge
          · exact ht.trans _ _ _ (hP _ (get_mem l p (by omega))) (hP _ (get_mem l j (by omega))) (hP _ (get_mem l (j + 1) (by omega))) (h.1 p j (by omega) (by omega) e1 (by omega)) hge
        · exact h.1 p q hpq hq e1 e2
theorem insO_srt {P : α → Prop} (ht : Tot cf P) : ∀ (k i : Nat) (l : Array α), i + k = l.size → 1 ≤ i → (∀ x ∈ l, P x) → Srt cf l (i - 1) → Srt cf (insO cf 0 k i l) (l.size - 1)
  | 0, i, l, hs, _, _, h => by
    rw [insO, ← hs]
    exact h
  | k + 1, i, l, hs, hi, hP, h => by
    rw [insO]
    have h1 : Srt cf (insJ cf 0 i l) i := insJ_srt ht i i l (Nat.le_refl _) (by omega) hP ⟨fun p q hpq hq _ hqi => h p q hpq (by omega), fun q hq hqi => by omega⟩
    have h2 := insO_srt ht k (i + 1) (insJ cf 0 i l) (by rw [insJ_len]; omega) (by omega) (fun x hx => hP x ((insJ_perm cf 0 i l).mem_iff.1 hx)) h1
    rw [insJ_len] at h2
    exact h2
theorem ins_srt {P : α → Prop} (ht : Tot cf P) (l : Array α) (h : 0 < l.size) (hP : ∀ x ∈ l, P x) : Srt cf (ins cf l 0 l.size) (l.size - 1) := by
  unfold ins
  exact insO_srt ht _ 1 l (by omega) (by omega) hP (fun p q hpq hq => by omega)
end
section
variable {α : Type} {cf : α → α → Int}
theorem cpt_inc {P : α → Prop} (ht : Tot cf P) : ∀ (t : List α) (p : α), P p → (∀ x ∈ t, P x) → (p :: t).Pairwise (fun a b => cf a b ≤ 0) → (∀ x ∈ cpt cf p t, cf p x < 0) ∧ (cpt cf p t).Pairwise (fun a b => cf a b < 0)
  | [], _, _, _, _ => ⟨fun x h => by simp [cpt] at h, by simp [cpt]⟩
  | y :: t, p, hp, hP, h => by
    have hy := hP y (List.mem_cons_self ..)
    have ht' := fun x hx => hP x (List.mem_cons_of_mem _ hx)
    rw [List.pairwise_cons] at h
    obtain ⟨h1, h2⟩ := cpt_inc ht t y hy ht' h.2
    have hpy := h.1 y (List.mem_cons_self ..)
    have ha := ht.anti p y hp hy
    have low : ∀ x, P x → cf y x < 0 → cf p x < 0 := fun x hx hl => by
      have h3 := ht.trans p y x hp hy hx hpy (by omega)
      have h4 := ht.anti p x hp hx
      have h5 := ht.anti y x hy hx
      rcases Int.lt_or_le (cf p x) 0 with h6 | h6
      · exact h6
      · have h7 : cf x p ≤ 0 := by omega
        have h8 := ht.trans x p y hx hp hy h7 hpy
        omega
    rw [cpt]
    split
    · exact ⟨fun x hx => low x (ht' x (cpt_mem cf t y x hx)) (h1 x hx), h2⟩
    · rename_i hne
      refine ⟨fun x hx => ?_, List.pairwise_cons.2 ⟨h1, h2⟩⟩
      rcases List.mem_cons.1 hx with rfl | hx
      · omega
      · exact low x (ht' x (cpt_mem cf t y x hx)) (h1 x hx)
theorem cpt_all {P : α → Prop} (hid : ∀ a b, P a → P b → cf a b = 0 → a = b) : ∀ (t : List α) (p : α), P p → (∀ x ∈ t, P x) → ∀ x ∈ t, x = p ∨ x ∈ cpt cf p t
  | [], _, _, _, x, h => by cases h
  | y :: t, p, hp, hP, x, h => by
    have hy := hP y (List.mem_cons_self ..)
    have ht' := fun x hx => hP x (List.mem_cons_of_mem _ hx)
    rw [cpt]
    rcases List.mem_cons.1 h with rfl | h
    · split
      · rename_i e
        exact .inl (hid _ _ hy hp e)
      · exact .inr (List.mem_cons_self ..)
    · rcases cpt_all hid t y hy ht' x h with e | e
      · split
        · rename_i e2
          exact .inl (e.trans (hid _ _ hy hp e2))
        · exact .inr (by rw [e]; exact List.mem_cons_self ..)
      · split
        · exact .inr e
        · exact .inr (List.mem_cons_of_mem _ e)
theorem inc_unique {P : α → Prop} (ht : Tot cf P) : ∀ (l1 l2 : List α), (∀ x ∈ l1, P x) → (∀ x ∈ l2, P x) → l1.Pairwise (fun a b => cf a b < 0) → l2.Pairwise (fun a b => cf a b < 0) → (∀ x, x ∈ l1 ↔ x ∈ l2) → l1 = l2
  | [], [], _, _, _, _, _ => rfl
  | [], y :: t, _, _, _, _, h => absurd ((h y).2 (List.mem_cons_self ..)) (by simp)
  | x :: t, [], _, _, _, _, h => absurd ((h x).1 (List.mem_cons_self ..)) (by simp)
  | x :: t1, y :: t2, p1, p2, h1, h2, h => by
    rw [List.pairwise_cons] at h1 h2
    have px := p1 x (List.mem_cons_self ..)
    have py := p2 y (List.mem_cons_self ..)
    have e : x = y := by
      rcases List.mem_cons.1 ((h x).1 (List.mem_cons_self ..)) with e | e
      · exact e
      · rcases List.mem_cons.1 ((h y).2 (List.mem_cons_self ..)) with e2 | e2
        · exact e2.symm
        · have a := h2.1 x e
          have b := h1.1 y e2
          have c := ht.anti x y px py
          omega
    subst e
    have self := ht.anti x x px px
    congr 1
    refine inc_unique ht t1 t2 (fun z hz => p1 z (List.mem_cons_of_mem _ hz)) (fun z hz => p2 z (List.mem_cons_of_mem _ hz)) h1.2 h2.2 fun z => ⟨fun hz => ?_, fun hz => ?_⟩
    · rcases List.mem_cons.1 ((h z).1 (List.mem_cons_of_mem _ hz)) with e | e
      · subst e
        have := h1.1 z hz
        omega
      · exact e
    · rcases List.mem_cons.1 ((h z).2 (List.mem_cons_of_mem _ hz)) with e | e
      · subst e
        have := h2.1 z hz
        omega
      · exact e
end
end Go.Proofs.YtmapagbmihpbmaaGreatDoor.Pv
namespace Go.Proofs.YtmapagbmihpbmaaGreatDoor
open Go.RowKit

theorem keysP_inc (l : List Vl) (hok : ∀ u ∈ l, u.ok) : (keysP l).Pairwise (fun a b => ordV a b < 0) := by
  unfold keysP
  rcases Nat.eq_zero_or_pos l.length with h0 | h0
  · obtain rfl := List.eq_nil_of_length_eq_zero h0
    exact List.Pairwise.nil
  · have hs := Pv.ins_srt (P := Vl.ok) tot_ok l.toArray (by simpa using h0) (fun x hx => hok x (by simpa using hx))
    have hm : ∀ x ∈ (Sq.ins ordV l.toArray 0 l.length).toList, x.ok := fun x hx => hok x ((ins_mem l x).1 hx)
    have hl : (Sq.ins ordV l.toArray 0 l.length).size = l.length := by rw [Sq.ins_len]; simp
    have e : l.toArray.size = l.length := by simp
    rw [e] at hs
    obtain ⟨S, hS⟩ : ∃ S, S = Sq.ins ordV l.toArray 0 l.length := ⟨_, rfl⟩
    rw [← hS] at hs hm hl ⊢
    have hp : S.toList.Pairwise (fun a b => ordV a b ≤ 0) := by
      rw [List.pairwise_iff_getElem]
      intro i j hi hj hij
      have := hs i j hij (by simp at hj; omega)
      rw [getElem!_pos S i (by simpa using hi), getElem!_pos S j (by simpa using hj)] at this
      simpa using this
    cases hl2 : S.toList with
    | nil => exact List.Pairwise.nil
    | cons x t =>
      rw [hl2] at hp hm
      obtain ⟨h1, h2⟩ := Pv.cpt_inc tot_ok t x (hm x (List.mem_cons_self ..)) (fun y hy => hm y (List.mem_cons_of_mem _ hy)) hp
      exact List.pairwise_cons.2 ⟨h1, h2⟩
theorem keysP_all (l : List Vl) (hid : ∀ a ∈ l, ∀ b ∈ l, ordV a b = 0 → a = b) : ∀ u ∈ l, u ∈ keysP l := fun u hu => by
  have hm := (ins_mem l u).2 hu
  have hP : ∀ x ∈ (Sq.ins ordV l.toArray 0 l.length).toList, x ∈ l := fun x hx => (ins_mem l x).1 hx
  unfold keysP
  cases hl : (Sq.ins ordV l.toArray 0 l.length).toList with
  | nil => rw [hl] at hm; cases hm
  | cons x t =>
    rw [hl] at hm hP
    rcases List.mem_cons.1 hm with rfl | hm
    · exact List.mem_cons_self ..
    · rcases Pv.cpt_all (P := fun z => z ∈ l) (fun a b ha hb e => hid a ha b hb e) t x (hP x (List.mem_cons_self ..)) (fun y hy => hP y (List.mem_cons_of_mem _ hy)) u hm with e | e
      · rw [e]
        exact List.mem_cons_self ..
      · exact List.mem_cons_of_mem _ e
/-- The keys of lists with the same members are the same, where equal place means equal. -/
theorem keysP_same (l l' : List Vl) (hok : ∀ u ∈ l, u.ok) (hid : ∀ a ∈ l, ∀ b ∈ l, ordV a b = 0 → a = b) (hm : ∀ u, u ∈ l ↔ u ∈ l') : keysP l = keysP l' := by
  have hok' : ∀ u ∈ l', u.ok := fun u hu => hok u ((hm u).2 hu)
  have hid' : ∀ a ∈ l', ∀ b ∈ l', ordV a b = 0 → a = b := fun a ha b hb e => hid a ((hm a).2 ha) b ((hm b).2 hb) e
  exact Pv.inc_unique tot_ok _ _ (fun x hx => hok x (keysP_mem l x hx)) (fun x hx => hok' x (keysP_mem l' x hx)) (keysP_inc l hok) (keysP_inc l' hok') fun x => ⟨fun hx => keysP_all l' hid' x ((hm x).1 (keysP_mem l x hx)), fun hx => keysP_all l hid x ((hm x).2 (keysP_mem l' x hx))⟩
end Go.Proofs.YtmapagbmihpbmaaGreatDoor

namespace Go.Proofs.YtmapagbmihpbmaaGreatDoor
open Go.RowKit

theorem Chg.grownK {w w' : World} {row : Option Nat} (h : w.grownBy w' row) : Chg w.heap.size row.toList w w' :=
  ⟨h.os, h.tape, h.output, h.size, fun k hk hn => h.block k hk (fun e => hn (by rw [← e]; simp))⟩
section
variable {α β : Type} {E E' : TypeId} {size size' : Nat} {f : α → List Value} {f' : β → List Value} {w w' : World} {b b' : Nat} {v v' : Value} {l : List α} {l' : List β}
/-- Rows of different types lie in different blocks. -/
theorem RowOf.apart2 (h : RowOf E size f w b v l) (h' : RowOf E' size' f' w b' v' l') (hne : E ≠ E') {g : Nat} (hg : v.ownBlock = some g) : v'.ownBlock ≠ some g := by
  intro e
  rcases h.2 with ⟨rfl, _⟩ | ⟨g1, cap, cur, rfl, _, h2, _⟩
  · cases hg
  · rcases h'.2 with ⟨rfl, _⟩ | ⟨g2, cap2, cur2, rfl, _, h3, _⟩
    · cases e
    · injection hg with hg
      injection e with e
      subst hg e
      rw [h2] at h3
      injection h3 with h3
      injection h3 with _ ht
      exact hne ht
theorem RowOf.mono (h : RowOf E size f w b v l) (hb : b' ≤ b) : RowOf E size f w b' v l := by
  refine ⟨h.1, ?_⟩
  rcases h.2 with h0 | ⟨g, cap, cur, e, a1, a2⟩
  · exact .inl h0
  · exact .inr ⟨g, cap, cur, e, Nat.le_trans hb a1, a2⟩
/-- A row stays while rows of another type are changed. -/
theorem RowOf.kept2 (h : RowOf E size f w b v l) (h' : RowOf E' size' f' w b' v' l') (hne : E ≠ E') (hc : Chg w.heap.size v'.ownBlock.toList w w') : RowOf E size f w' b v l :=
  RowOf.chg h hc fun g hg => ⟨(RowOf.lt h g hg).2, fun hm => RowOf.apart2 h h' hne hg (by simpa using hm)⟩
end
theorem Loc.alloc0 {w W : World} {L : List (Nat × TypeId × Array Value)} (h : Loc w L W) (o : Obj) : Loc w L (W.alloc o) := ⟨h.1.alloc h.1.size _, fun x hx => ⟨(h.2 x hx).1, (h.2 x hx).2.alloc _⟩⟩
theorem Loc.far1 {w W : World} {L : List (Nat × TypeId × Array Value)} {g i : Nat} (h : Loc w L W) (hg : w.heap.size ≤ g) (hne : ∀ x ∈ L, x.1 < g) (a : Value) : Loc w L (W.setCell ⟨g, i, none⟩ a) :=
  ⟨h.1.setCell (p := ⟨g, i, none⟩) hg _, fun x hx => ⟨(h.2 x hx).1, (h.2 x hx).2.far (Nat.ne_of_lt (hne x hx)) _⟩⟩
theorem Loc.far3 {w W : World} {L : List (Nat × TypeId × Array Value)} {g : Nat} (h : Loc w L W) (hg : w.heap.size ≤ g) (hne : ∀ x ∈ L, x.1 < g) (a b c : Value) : Loc w L (((W.setCell ⟨g, 0, none⟩ a).setCell ⟨g, 1, none⟩ b).setCell ⟨g, 2, none⟩ c) :=
  ((h.far1 hg hne a).far1 hg hne b).far1 hg hne c
theorem Loc.cons {w W : World} {L : List (Nat × TypeId × Array Value)} {g : Nat} {t : TypeId} {cs : Array Value} (h : Loc w L W) (hg : w.heap.size ≤ g) (hb : Blk W g t cs) : Loc w ((g, t, cs) :: L) W :=
  ⟨h.1, fun x hx => by
    rcases List.mem_cons.1 hx with rfl | hx
    · exact ⟨hg, hb⟩
    · exact h.2 x hx⟩
theorem Loc.stepB' {w W W' : World} {L : List (Nat × TypeId × Array Value)} {B : Nat} (h : Loc w L W) (hb : Below B W W') (hB : w.heap.size ≤ B) (hl : ∀ x ∈ L, x.1 < B) : Loc w L W' :=
  ⟨h.1.trans (hb.mono hB), fun x hx => ⟨(h.2 x hx).1, (h.2 x hx).2.below hb (hl x hx)⟩⟩
/-- A key of one item, in a block of its own. -/
abbrev KO (W : World) (b : Nat) (x : SV) (u : Vl) : Prop := RowOf 27 9 csV W b (sv3 x) [u]
theorem csV_len (u : Vl) : (csV u).length = 9 := rfl
theorem csV_one (u : Vl) : (csV u).length = 9 ∧ ∀ x ∈ csV u, x.oneCell' = true := ⟨rfl, by simp [csV, Vl.cs, Value.oneCell']⟩
theorem val_info : (Tryz.prog.info? 27).map (fun i => (i.zero, i.size, i.bytes)) = some (some (.agg #[.int .i64 0, .string ⟨#[]⟩, .string ⟨#[]⟩, .string ⟨#[]⟩, .bool false, .int .i64 0, .int .i64 0, .int .i64 0, .slice none 0 0]), 9, 112) := by kernel_rfl
theorem sv_info : (Tryz.prog.info? 25).map (fun i => (i.zero, i.size, i.bytes)) = some (some (.slice none 0 0), 1, 24) := by kernel_rfl
theorem sv_one (x : SV) : [sv3 x].length = 1 ∧ ∀ u ∈ [sv3 x], u.oneCell' = true := ⟨rfl, by simp [sv3, Value.oneCell']⟩
theorem RowOf.kr {W : World} {b : Nat} {x : SV} {u : Vl} (h : KO W b x u) : KR W x u := RowOf.reads h csV_len
/-- Slices of slices read as keys. -/
def KRows (W : World) (v : Value) (K : List Vl) : Prop := ∃ H : List SV, Reads 1 (fun x => [sv3 x]) W v H ∧ All2 (KR W) H K
theorem KRows.below {W W' : World} {v : Value} {K : List Vl} (h : KRows W v K) (hb : Below W.heap.size W W') : KRows W' v K := by
  obtain ⟨H, h1, h2⟩ := h
  exact ⟨H, h1.below hb, h2.imp fun _ _ _ hk => hk.below hb⟩
theorem KRows.shape {W : World} {v : Value} {K : List Vl} (h : KRows W v K) : ∃ A c, v = .slice A K.length c := by
  obtain ⟨H, h1, h2⟩ := h
  obtain ⟨A, c, e⟩ := h1.shape
  exact ⟨A, c, by rw [e, h2.len]⟩
theorem KRows.get {W : World} {A : Option Addr} {n c : Nat} {K : List Vl} (h : KRows W (.slice A n c) K) : K.length = n ∧ (0 < n → ∃ b o, A = some ⟨b, o, none⟩ ∧ b < W.heap.size ∧ ∀ i (hi : i < K.length), ∃ x : SV, W.cell? ⟨b, o + i, none⟩ = some (sv3 x) ∧ KR W x K[i]!) := by
  obtain ⟨H, ⟨A', c', e, h0, h1, h3⟩, h2⟩ := h
  injection e with e1 e2 e3
  subst e1 e3
  have hl := h2.len
  refine ⟨by omega, fun hn => ?_⟩
  obtain ⟨b, o, e4, hb, hc⟩ := h3 (by omega)
  refine ⟨b, o, e4, hb, fun i hi => ⟨H[i]'(by omega), ?_, ?_⟩⟩
  · have := hc i (by omega) 0 (by decide)
    rw [show o + (i * 1 + 0) = o + i by omega] at this
    exact this
  · rw [getElem!_pos K i hi]
    exact h2.get i (by omega) hi
/-- Keys whose blocks are known by their types. -/
def KT (W : World) (v : Value) (K : List Vl) : Prop :=
  ∃ (g c : Nat) (H : List SV), v = .slice (some ⟨g, 0, none⟩) H.length c ∧ (∃ cs, Blk W g 25 cs) ∧ Reads 1 (fun x => [sv3 x]) W v H ∧ All2 (fun x u => ∃ b, KO W b x u) H K
theorem KT.rows {W : World} {v : Value} {K : List Vl} (h : KT W v K) : KRows W v K := by
  obtain ⟨g, c, H, -, -, h1, h2⟩ := h
  exact ⟨H, h1, h2.imp fun x _ u ⟨b, hk⟩ => RowOf.kr hk⟩
theorem KT.chg {W W' : World} {v : Value} {K : List Vl} {G : List Nat} (h : KT W v K) (hc : Chg W.heap.size G W W') (hg : ∀ g ∈ G, ∃ t cs, Blk W g t cs ∧ t ≠ 27 ∧ t ≠ 25) : KT W' v K := by
  obtain ⟨g, c, H, rfl, ⟨cs, hb⟩, ⟨A', c', e, h0, h1, h3⟩, h2⟩ := h
  have hng : g ∉ G := fun hm => by
    obtain ⟨t, cs', hb', -, hne⟩ := hg g hm
    exact Blk.ne_ hb' hb hne rfl
  injection e with e1 e2 e3
  subst e1 e3
  refine ⟨g, c, H, rfl, ⟨cs, hc.blk hb hb.lt hng⟩, ⟨_, c, rfl, h0, h1, fun hl => ?_⟩, h2.imp fun x _ u ⟨b, hk⟩ => ⟨b, RowOf.chg hk hc fun k e => ⟨(RowOf.lt hk k e).2, fun hm => by
    obtain ⟨t, cs', hb', hne, -⟩ := hg k hm
    rcases hk.2 with ⟨h0, _⟩ | ⟨g1, cap, cur, h1, _, h2, _⟩
    · rw [h0] at e; cases e
    · rw [h1] at e
      injection e with e
      subst e
      exact Blk.ne_ hb' (show Blk W _ _ cur from h2) hne rfl⟩⟩⟩
  obtain ⟨b, o, e, hbl, hcell⟩ := h3 hl
  injection e with e
  injection e with e4 e5
  subst e4 e5
  refine ⟨g, 0, rfl, Nat.lt_of_lt_of_le hbl hc.size, fun i hi j hj => ?_⟩
  have := hcell i hi j hj
  rw [← this]
  exact World.cell?_of_block (hc.block g hb.lt hng)
theorem KT.later {W W' : World} {v : Value} {K : List Vl} (h : KT W v K) (hb : Below W.heap.size W W') : KT W' v K := h.chg (Chg.of hb []) (fun _ hm => by cases hm)
theorem KT.drew {W : World} {v : Value} {K : List Vl} (h : KT W v K) : KT W.drew v K := h
section
variable {α β : Type} [Inhabited α] [Inhabited β] (f : α → β) (cf : β → β → Int)
theorem map_get! (l : Array α) (i : Nat) (h : i < l.size) : (l.map f)[i]! = f l[i]! := by
  rw [getElem!_pos l i h, getElem!_pos (l.map f) i (by simpa using h), Array.getElem_map]
theorem sw_map (l : Array α) (i j : Nat) : (Sq.sw l i j).map f = Sq.sw (l.map f) i j := by
  by_cases h : i < l.size ∧ j < l.size
  · rw [Sq.sw_of h.1 h.2, Sq.sw_of (by simpa using h.1) (by simpa using h.2)]
    unfold Go.Sort.swp
    rw [map_get! f l i h.1, map_get! f l j h.2, Array.map_setIfInBounds, Array.map_setIfInBounds]
  · rw [Sq.sw, if_neg h, Sq.sw, if_neg (by simpa using h)]
theorem insJ_map (a : Nat) : ∀ (j : Nat) (l : Array α), j < l.size → (Sq.insJ (fun p q => cf (f p) (f q)) a j l).map f = Sq.insJ cf a j (l.map f)
  | 0, _, _ => rfl
  | j + 1, l, h => by
    rw [Sq.insJ, Sq.insJ, map_get! f l (j + 1) h, map_get! f l j (by omega)]
    split
    · rw [insJ_map a j _ (by rw [Sq.sw_len]; omega), sw_map]
    · rfl
theorem insO_map (a : Nat) : ∀ (k i : Nat) (l : Array α), i + k ≤ l.size → (Sq.insO (fun p q => cf (f p) (f q)) a k i l).map f = Sq.insO cf a k i (l.map f)
  | 0, _, _, _ => rfl
  | k + 1, i, l, h => by
    rw [Sq.insO, Sq.insO, insO_map a k (i + 1) _ (by rw [Sq.insJ_len]; omega), insJ_map f cf a i l (by omega)]
theorem ins_map (l : Array α) : (Sq.ins (fun p q => cf (f p) (f q)) l 0 l.size).map f = Sq.ins cf (l.map f) 0 l.size := by
  rcases Nat.eq_zero_or_pos l.size with h | h
  · unfold Sq.ins
    rw [h]
    rfl
  · exact insO_map f cf 0 _ _ l (by omega)
omit [Inhabited α] [Inhabited β] in
theorem cpt_map : ∀ (l : List α) (p : α), (Pv.cpt (fun p q => cf (f p) (f q)) p l).map f = Pv.cpt cf (f p) (l.map f)
  | [], _ => rfl
  | x :: t, p => by
    rw [Pv.cpt, List.map_cons, Pv.cpt]
    split
    · exact cpt_map t x
    · rw [List.map_cons, cpt_map t x]
omit [Inhabited α] [Inhabited β] in
theorem cmpct_map (l : List α) : (Pv.cmpct (fun p q => cf (f p) (f q)) l).map f = Pv.cmpct cf (l.map f) := by
  cases l with
  | nil => rfl
  | cons x t => exact congrArg (f x :: ·) (cpt_map f cf t x)
end
abbrev PK : Type := SV × Vl
noncomputable def cfP (p q : PK) : Int := ordV p.2 q.2
theorem sort_keys (P : List PK) (n : Nat) (hn : P.length = n) : (Pv.cmpct cfP (Sq.ins cfP P.toArray 0 n).toList).map Prod.snd = keysP (P.map Prod.snd) := by
  subst hn
  unfold keysP
  have h := ins_map (α := PK) (β := Vl) Prod.snd ordV P.toArray
  rw [show P.toArray.size = P.length by simp, show Array.map Prod.snd P.toArray = (P.map Prod.snd).toArray by simp] at h
  have e : (fun p q : PK => ordV p.2 q.2) = cfP := rfl
  rw [e] at h
  have h2 := cmpct_map (α := PK) (β := Vl) Prod.snd ordV (Sq.ins cfP P.toArray 0 P.length).toList
  rw [e] at h2
  rw [h2, List.length_map, ← h, Array.toList_map]
end Go.Proofs.YtmapagbmihpbmaaGreatDoor

namespace Go.Proofs.YtmapagbmihpbmaaGreatDoor
open Go.RowKit

/-- A row of records. -/
abbrev RO (W : World) (b : Nat) (v : Value) (l : List Rm) : Prop := RowOf 61 12 rmC W b v l
theorem rm_one (r : Rm) : (rmC r).length = 12 ∧ ∀ x ∈ rmC r, x.oneCell' = true := ⟨rfl, by simp [rmC, Vl.cs, Value.oneCell']⟩
theorem rec_info : (Tryz.prog.info? 61).map (fun i => (i.zero, i.size, i.bytes)) = some (some (.agg #[.int .i64 0, .int .i64 0, .int .i64 0, .int .i64 0, .string ⟨#[]⟩, .string ⟨#[]⟩, .string ⟨#[]⟩, .bool false, .int .i64 0, .int .i64 0, .int .i64 0, .slice none 0 0]), 12, 136) := by kernel_rfl
theorem sr_info : (Tryz.prog.info? 54).map (fun i => (i.zero, i.size, i.bytes)) = some (some (.slice none 0 0), 1, 24) := by kernel_rfl
section
variable {ops : Array Oper} {o : Oper} {a : Act} {K : Act → World → Prop} {Q : Exit → Act → World → Prop} {X : Prop}
/-- append of one element to a row of the call's own, at a step of a region that draws; which block grows. -/
theorem step_row2 {α : Type} (T E : TypeId) (size bytes : Nat) (f : α → List Value) (z : Value) (hu : Tryz.prog.underlying T = some (.slice E)) (hinfo : (Tryz.prog.info? E).map (fun i => (i.zero, i.size, i.bytes)) = some (some z, size, bytes)) (hzs : z.cells.size = size) (hsz : 0 < size)
    (hf : ∀ x, (f x).length = size ∧ ∀ u ∈ f x, u.oneCell' = true)
    {w : World} (hgd : o.guard = none) (s x : Operand) (ho : o.op = .call { callee := .builtin .append, args := #[s, x], argTypes := #[T, T] })
    (base : Nat) (v : Value) (l : List α) (hs : a.eval s = v) (hown : RowOf E size f w base v l) (d : α) (b : Nat) (cs : Array Value) (hcs : cs.toList = f d) (hb : Blk w b E cs) (hx : a.eval x = .slice (some ⟨b, 0, none⟩) 1 1)
    (hby : (l.length + 1) * bytes ≤ 140737488355328) (h63 : l.length + 1 ≤ maxLen) (hbase : base ≤ w.heap.size)
    (h : ∀ g cap w', RowOf E size f w' base (.slice (some ⟨g, 0, none⟩) (l.length + 1) cap) (l ++ [d]) → Below base w w' → w.grownBy w' v.ownBlock → (v.ownBlock = some g ∨ g = w.heap.size) → K (a.put o.dst (.slice (some ⟨g, 0, none⟩) (l.length + 1) cap)) w') :
    if Region.wanted o (yielded ops a.tmps) = true then Oper.wp Tryz.prog o a w K Q else X := by
  obtain ⟨i0, hi, hz0, hz1, hz2⟩ := info_parts hinfo
  refine step_append_lies (P := Tryz.prog) w hgd s x T ho base E i0 z size bytes hu hi hz0 hz1 hz2 hzs hsz v l.length (l.flatMap f) hs hown ⟨b, 0, none⟩ 1 1 (f d) hx (by rw [(hf d).1]; omega) (fun j u hj => by
    rw [show ((⟨b, 0, none⟩ : Addr).add j) = ⟨b, j, none⟩ by cases j <;> simp [Addr.add], hb.cell j, ← Array.getElem?_toList, hcs]
    exact hj) (hf d).2 (by decide) h63 hby hbase _ rfl ?_
  intro g cap w' h1 h2 h3 _
  refine h g cap w' ?_ ?_ h2 h3
  · unfold RowOf
    rw [List.flatMap_append, List.length_append]
    simpa using h1
  · exact (Below.refl _ _).grown h2 hbase (fun k hk => ((World.ownsRow.lt hown) k hk).1)
end
/-- Rows of records under numbers below M, no two in one block. -/
structure Bg (W : World) (B M : Nat) (H : Nat → SV) (F : Nat → List Rm) : Prop where
  row : ∀ x, x < M → RO W B (sv3 (H x)) (F x)
  sep : ∀ x y, x < M → y < M → x ≠ y → ∀ k, (sv3 (H x)).ownBlock = some k → (sv3 (H y)).ownBlock ≠ some k
def up {α : Type} (H : Nat → α) (x : Nat) (v : α) : Nat → α := fun y => if y = x then v else H y
theorem up_same {α : Type} (H : Nat → α) (x : Nat) (v : α) : up H x v x = v := if_pos rfl
theorem up_ne {α : Type} (H : Nat → α) (x y : Nat) (v : α) (h : y ≠ x) : up H x v y = H y := if_neg h
section
variable {W W' : World} {B M : Nat} {H : Nat → SV} {F : Nat → List Rm}
theorem Bg.nil (W : World) (B M : Nat) : Bg W B M (fun _ => (none, 0, 0)) (fun _ => []) := ⟨fun _ _ => RowOf.nil _ _, fun _ _ _ _ _ _ h => by cases h⟩
theorem Bg.later (h : Bg W B M H F) (hb : Below W.heap.size W W') : Bg W' B M H F := ⟨fun x hx => RowOf.later (h.row x hx) hb, h.sep⟩
theorem Bg.drew (h : Bg W B M H F) : Bg W.drew B M H F := ⟨fun x hx => RowOf.drew (h.row x hx), h.sep⟩
theorem Bg.drewN (h : Bg W B M H F) (n : Nat) : Bg (W.drewN n) B M H F := ⟨fun x hx => RowOf.drewN (h.row x hx) n, h.sep⟩
theorem Bg.alloc (h : Bg W B M H F) (o : Obj) : Bg (W.alloc o) B M H F := ⟨fun x hx => RowOf.alloc (h.row x hx) o, h.sep⟩
/-- Blocks of another type are changed. -/
theorem Bg.chg {G : List Nat} (h : Bg W B M H F) (hc : Chg W.heap.size G W W') (hg : ∀ g ∈ G, ∃ t cs, Blk W g t cs ∧ t ≠ 61) : Bg W' B M H F :=
  ⟨fun x hx => RowOf.chg (h.row x hx) hc fun g e => ⟨(RowOf.lt (h.row x hx) g e).2, fun hm => by
    obtain ⟨t, cs, hb, hne⟩ := hg g hm
    rcases (h.row x hx).2 with ⟨h0, _⟩ | ⟨g1, cap, cur, h1, _, h2, _⟩
    · rw [h0] at e; cases e
    · rw [h1] at e
      injection e with e
      subst e
      unfold Blk at hb
      rw [h2] at hb
      injection hb with hb
      injection hb with _ ht
      exact hne ht.symm⟩, h.sep⟩
/-- One of them grows. -/
theorem Bg.app (h : Bg W B M H F) {x : Nat} (_hx : x < M) {v : SV} {l : List Rm} (h1 : RO W' B (sv3 v) l) (h2 : W.grownBy W' (sv3 (H x)).ownBlock) (h3 : (sv3 v).ownBlock = (sv3 (H x)).ownBlock ∨ ∃ k, (sv3 v).ownBlock = some k ∧ W.heap.size ≤ k) : Bg W' B M (up H x v) (up F x l) := by
  have hsep : ∀ y, y < M → y ≠ x → ∀ k, (sv3 v).ownBlock = some k → (sv3 (H y)).ownBlock ≠ some k := fun y hy hne k hk hk2 => by
    rcases h3 with h3 | ⟨k', h3, h4⟩
    · exact h.sep x y _hx hy (Ne.symm hne) k (h3 ▸ hk) hk2
    · rw [h3] at hk
      injection hk with hk
      subst hk
      have := (RowOf.lt (h.row y hy) _ hk2).2
      omega
  refine ⟨fun y hy => ?_, fun y z hy hz hne k hk => ?_⟩
  · by_cases e : y = x
    · subst e
      rw [up_same, up_same]
      exact h1
    · rw [up_ne _ _ _ _ e, up_ne _ _ _ _ e]
      refine World.ownsRow.kept (h.row y hy) h2 ?_
      cases hv : (sv3 (H y)).ownBlock with
      | none => exact .inl rfl
      | some k => exact .inr (fun e2 => h.sep y x hy _hx e k hv e2.symm)
  · by_cases e : y = x
    · subst e
      rw [up_same] at hk
      rw [up_ne _ _ _ _ (Ne.symm hne)]
      exact hsep z hz (Ne.symm hne) k hk
    · rw [up_ne _ _ _ _ e] at hk
      by_cases e2 : z = x
      · subst e2
        rw [up_same]
        exact fun h9 => hsep y hy e k h9 hk
      · rw [up_ne _ _ _ _ e2]
        exact h.sep y z hy hz hne k hk
end
theorem RowOf.typed {α : Type} {E : TypeId} {size : Nat} {f : α → List Value} {w : World} {b : Nat} {v : Value} {l : List α} (h : RowOf E size f w b v l) : ∀ g ∈ v.ownBlock.toList, ∃ cs, Blk w g E cs := fun g hg => by
  have hg : v.ownBlock = some g := by simpa using hg
  rcases h.2 with ⟨h0, _⟩ | ⟨g1, cap, cur, h1, _, h2, _⟩
  · rw [h0] at hg; cases hg
  · rw [h1] at hg
    injection hg with hg
    subst hg
    exact ⟨cur, h2⟩
/-- A record is put: what stays. -/
theorem rec_put {w W w5 : World} {L : List (Nat × TypeId × Array Value)} {z : Nat} {t : TypeId} {s1 s2 rv nv : Value} {K1 K2 : List Vl} {l l' : List Rm} {B : Nat} (hL : Loc w ((z, t, #[s1, s2, rv]) :: L) W) (hne : ∀ x ∈ L, x.1 ≠ z) (hlt : ∀ x ∈ L, x.1 < B) (hzB : z < B) (hB : B ≤ W.heap.size) (ht : t ≠ 27 ∧ t ≠ 25) (hK1 : KT W s1 K1) (hK2 : KT W s2 K2) (hO : RO W B rv l) (hb : Below B W w5) (hg : W.grownBy w5 rv.ownBlock) (ho : RO w5 B nv l') :
    (w5.cell? ⟨z, 2, none⟩ = some rv ∧ w5.frozen? ⟨z, 2, none⟩ = false ∧ Loc w ((z, t, #[s1, s2, rv]) :: L) w5) ∧ Loc w ((z, t, #[s1, s2, nv]) :: L) (w5.setCell ⟨z, 2, none⟩ nv) ∧ KT (w5.setCell ⟨z, 2, none⟩ nv) s1 K1 ∧ KT (w5.setCell ⟨z, 2, none⟩ nv) s2 K2 ∧ RO (w5.setCell ⟨z, 2, none⟩ nv) B nv l' ∧ B ≤ (w5.setCell ⟨z, 2, none⟩ nv).heap.size := by
  have hw : w.heap.size ≤ B := by
    have := (hL.2 _ (List.mem_cons_self ..)).1
    exact Nat.le_of_lt (Nat.lt_of_le_of_lt this hzB)
  have hL5 := hL.stepB' hb hw (fun x hx => by
    rcases List.mem_cons.1 hx with rfl | hx
    · exact hzB
    · exact hlt x hx)
  have hz := hL5.blk (g := z) (t := t) (List.mem_cons_self ..)
  have hty : ∀ g ∈ rv.ownBlock.toList, ∃ t cs, Blk W g t cs ∧ t ≠ 27 ∧ t ≠ 25 := fun g hm => by
    obtain ⟨cs, h⟩ := RowOf.typed hO g hm
    exact ⟨_, cs, h, by decide, by decide⟩
  have hc : Chg w5.heap.size [z] w5 (w5.setCell ⟨z, 2, none⟩ nv) := (Chg.refl w5.heap.size [z] w5).set (p := ⟨z, 2, none⟩) (.inl (List.mem_singleton.2 rfl)) nv
  have hzt : ∀ g ∈ [z], ∃ t cs, Blk w5 g t cs ∧ t ≠ 27 ∧ t ≠ 25 := fun g hm => by
    obtain rfl := List.mem_singleton.1 hm
    exact ⟨t, _, hz, ht.1, ht.2⟩
  refine ⟨⟨hz.cell 2, hz.frozen 2, hL5⟩, ?_, (hK1.chg (Chg.grownK hg) hty).chg hc hzt, (hK2.chg (Chg.grownK hg) hty).chg hc hzt, RowOf.far ho (fun k hk e => by
    have h1 := (RowOf.lt ho k hk).1
    have e : k = z := e
    omega) nv, ?_⟩
  · have := hL5.set1 (i := 2) hne nv
    exact this
  · have := hb.size
    simp only [World.setCell, Array.size_modify]
    omega
/-- A row of headers, as a function's values. -/
def HR (W : World) (B g N : Nat) (H : Nat → SV) : Prop := ∃ c, RowOf 54 1 (fun x => [sv3 x]) W B (.slice (some ⟨g, 0, none⟩) N c) ((List.range N).map H)
section
variable {W W' : World} {B g N : Nat} {H H' : Nat → SV} {G : List Nat}
theorem HR.cell (h : HR W B g N H) {i : Nat} (hi : i < N) : W.cell? ⟨g, i, none⟩ = some (sv3 (H i)) := by
  obtain ⟨c, h⟩ := h
  have h := (show W.ownsRow B 54 1 (.slice (some ⟨g, 0, none⟩) N c) ((List.range N).map H).length _ from h)
  rw [show ((List.range N).map H).length = N by simp] at h
  have := World.ownsRow.cellAt h i (by simpa using hi)
  rw [this, sv1_flat]
  simp [hi]
theorem HR.frozen (h : HR W B g N H) (i : Nat) : W.frozen? ⟨g, i, none⟩ = false := by
  obtain ⟨c, h⟩ := h
  have h := (show W.ownsRow B 54 1 (.slice (some ⟨g, 0, none⟩) N c) ((List.range N).map H).length _ from h)
  rw [show ((List.range N).map H).length = N by simp] at h
  exact World.ownsRow.frozenAt h i
theorem HR.lt (h : HR W B g N H) : B ≤ g ∧ g < W.heap.size := by
  obtain ⟨c, h⟩ := h
  exact RowOf.lt h g rfl
theorem HR.congr (h : HR W B g N H) (e : ∀ i, i < N → H i = H' i) : HR W B g N H' := by
  obtain ⟨c, h⟩ := h
  have e2 : (List.range N).map H = (List.range N).map H' := List.map_congr_left fun x hx => e x (List.mem_range.1 hx)
  rw [e2] at h
  exact ⟨c, h⟩
theorem HR.set (h : HR W B g N H) (i : Nat) (x : SV) : HR (W.setCell ⟨g, i, none⟩ (sv3 x)) B g N (up H i x) := by
  obtain ⟨c, h⟩ := h
  refine ⟨c, ?_⟩
  have h0 := (show W.ownsRow B 54 1 (.slice (some ⟨g, 0, none⟩) N c) ((List.range N).map H).length _ from h)
  rw [show ((List.range N).map H).length = N by simp] at h0
  have := (World.ownsRow.stored h0 i (sv3 x)).1
  unfold RowOf
  have e : (List.range N).map (up H i x) = ((List.range N).map H).set i x := by
    apply List.ext_getElem
    · simp
    · intro j h1 h2
      rw [List.getElem_set]
      simp only [List.getElem_map, List.getElem_range]
      by_cases h : i = j
      · rw [if_pos h, ← h, up_same]
      · rw [if_neg h, up_ne _ _ _ _ (Ne.symm h)]
  rw [e, List.length_set, List.length_map, List.length_range, sv1_flat, List.map_set, ← sv1_flat]
  exact this
theorem HR.chg (h : HR W B g N H) (hc : Chg W.heap.size G W W') (hG : g ∉ G) : HR W' B g N H := by
  have hl := h.lt.2
  obtain ⟨c, h⟩ := h
  exact ⟨c, RowOf.chg h hc fun k hk => by injection hk with hk; subst hk; exact ⟨hl, hG⟩⟩
theorem HR.later (h : HR W B g N H) (hb : Below W.heap.size W W') : HR W' B g N H := h.chg (Chg.of hb []) (by simp)
theorem HR.drew (h : HR W B g N H) : HR W.drew B g N H := h
theorem HR.blk (h : HR W B g N H) : ∃ cs, Blk W g 54 cs := by
  obtain ⟨c, -, h⟩ := h
  rcases h with ⟨h0, _⟩ | ⟨g1, cap, cur, e, _, h2, _⟩
  · cases h0
  · injection e with e
    injection e with e
    injection e with e
    subst e
    exact ⟨cur, h2⟩
end
end Go.Proofs.YtmapagbmihpbmaaGreatDoor

namespace Go.Proofs.YtmapagbmihpbmaaGreatDoor
open Go.RowKit

instance : Inhabited Rm := ⟨⟨0, 0, 0, default⟩⟩
/-- The records of a row and a column. -/
def grM (l : List Rm) (i k : Nat) : List Rm := Pv.gr Rm.row Rm.col l i k
theorem Reads.lt {α : Type} {size : Nat} {f : α → List Value} {W : World} {b o n c : Nat} {l : List α} (h : Reads size f W (.slice (some ⟨b, o, none⟩) n c) l) (h0 : 0 < n) : l.length = n ∧ b < W.heap.size ∧ ∀ i (hi : i < l.length) j, j < size → W.cell? ⟨b, o + (i * size + j), none⟩ = (f l[i])[j]? := by
  obtain ⟨A', c', e, -, -, h3⟩ := h
  injection e with e1 e2 e3
  obtain ⟨b', o', e4, hb, hc⟩ := h3 (by omega)
  rw [← e1] at e4
  injection e4 with e4
  injection e4 with e5 e6
  subst e5 e6
  exact ⟨e2.symm, hb, hc⟩
set_option maxRecDepth 100000 in
set_option maxHeartbeats 8000000 in
theorem group_any (s1 s2 : Value) (hs1 : ∃ A n c, s1 = .slice A n c) (hs2 : ∃ A n c, s2 = .slice A n c) (g3 c3 R : Nat) (L : List Rm) (i k : Nat) (w : World) (hL : Reads 12 rmC w (.slice (some ⟨g3, 0, none⟩) R c3) L) (hR : 1 ≤ R) (hR2 : R ≤ 100000) (hi : i ≤ 100000) (hk : k ≤ 100000) :
    Calls Tryz.prog 24 #[.agg #[s1, s2, .slice (some ⟨g3, 0, none⟩) R c3], .int .i64 (i : Int), .int .i64 (k : Int)] w fun e w' => ∃ v, e = .returned v ∧ RO w' w.heap.size v (grM L i k) ∧ Below w.heap.size w w' := by
  obtain ⟨hl, hbl, hcell⟩ := hL.lt (by omega)
  have hlen : L.length ≤ 100000 := by omega
  have HC := Lib.hid (show ∀ j (hj : j < R), ∃ r, r = L[j]! ∧ ∀ W, Below w.heap.size w W → ∀ q, q < 12 → W.cell? ⟨g3, j * 12 + q, none⟩ = (rmC r)[q]? from fun j hj => ⟨_, rfl, fun W hW q hq => by
    have := hcell j (by omega) q hq
    rw [Nat.zero_add, ← getElem!_pos L j (by omega)] at this
    exact (hW.cell (by exact hbl)).trans this⟩)
  have HG := Lib.hid (show ∀ j (hj : j < R) r, r = L[j]! → grM (L.take (j + 1)) i k = if r.row = i ∧ r.col = k then grM (L.take j) i k ++ [r] else grM (L.take j) i k from fun j hj r hr => by
    have h9 : j < L.length := by omega
    rw [getElem!_pos L j h9] at hr
    rw [← List.take_append_getElem h9, ← hr]
    unfold grM Pv.gr
    rw [List.filter_append]
    by_cases h : r.row = i ∧ r.col = k
    · rw [if_pos h, List.filter_cons_of_pos (by simp [h.1, h.2])]; rfl
    · rw [if_neg h, List.filter_cons_of_neg (by simpa using h)]; simp)
  have HGL := Lib.hid (show ∀ j, (grM (L.take j) i k).length ≤ 100000 from fun j => Nat.le_trans (List.length_filter_le _ _) (Nat.le_trans (List.length_take_le' _ _) hlen))
  obtain ⟨A1, n1, c1, rfl⟩ := hs1
  obtain ⟨A2, n2, c2, rfl⟩ := hs2
  have hB0 : Below w.heap.size w (w.alloc (.cells #[.slice A1 n1 c1, .slice A2 n2 c2, .slice (some ⟨g3, 0, none⟩) R c3] 56)) := (Below.refl _ _).alloc (Nat.le_refl _) _
  have HB0 := Lib.hid hB0
  have HLL := Lib.hid hl
  have HGE := Lib.hid (show grM (L.take R) i k = grM L i k from by rw [List.take_of_length_le (by omega)])
  clear hL hcell hl hB0
  go_enter Tryz.func24, Tryz.ntmps24
  go_wp2_with fail
  go_loopw [7, 13] (fun u7 u13 wr => ∃ (j : Nat), j ≤ R ∧ u13 = .int .i64 j ∧ Hid (RO wr w.heap.size u7 (grM (L.take j) i k)) ∧ Hid (Below w.heap.size w wr)) (fun _ u _ => R - (intOf u).toNat)
  case atStart => exact ⟨0, by omega, rfl, Lib.hid (RowOf.nil _ _), HB0⟩
  case round =>
    clear HB0
    obtain ⟨j, hj, rfl, HO, HB⟩ := hrel
    by_cases hlt : j < R
    · have hlz : (j : Int) < (R : Int) := by omega
      obtain ⟨r, hr, hcl⟩ := HC.out j hlt
      have HGj := Lib.hid (HG.out j hlt r hr)
      have hgl := HGL.out j
      obtain ⟨ra, rr, rl, ⟨uk, unum, uden, utext, uon, ucode, urows, ucols, uA, un, uc⟩⟩ := r
      have e0 : wr.cell? ⟨g3, j * 12, none⟩ = some (.int .i64 (ra : Int)) := hcl wr HB.out 0 (by decide)
      have e1 : wr.cell? ⟨g3, j * 12 + 1, none⟩ = some (.int .i64 (rr : Int)) := hcl wr HB.out 1 (by decide)
      have e2 : wr.cell? ⟨g3, j * 12 + 2, none⟩ = some (.int .i64 (rl : Int)) := hcl wr HB.out 2 (by decide)
      have e3 : wr.cell? ⟨g3, j * 12 + 3, none⟩ = some (.int .i64 uk) := hcl wr HB.out 3 (by decide)
      have e4 : wr.cell? ⟨g3, j * 12 + 4, none⟩ = some (.string unum) := hcl wr HB.out 4 (by decide)
      have e5 : wr.cell? ⟨g3, j * 12 + 5, none⟩ = some (.string uden) := hcl wr HB.out 5 (by decide)
      have e6 : wr.cell? ⟨g3, j * 12 + 6, none⟩ = some (.string utext) := hcl wr HB.out 6 (by decide)
      have e7 : wr.cell? ⟨g3, j * 12 + 7, none⟩ = some (.bool uon) := hcl wr HB.out 7 (by decide)
      have e8 : wr.cell? ⟨g3, j * 12 + 8, none⟩ = some (.int .i64 ucode) := hcl wr HB.out 8 (by decide)
      have e9 : wr.cell? ⟨g3, j * 12 + 9, none⟩ = some (.int .i64 urows) := hcl wr HB.out 9 (by decide)
      have e10 : wr.cell? ⟨g3, j * 12 + 10, none⟩ = some (.int .i64 ucols) := hcl wr HB.out 10 (by decide)
      have e11 : wr.cell? ⟨g3, j * 12 + 11, none⟩ = some (.slice uA un uc) := hcl wr HB.out 11 (by decide)
      clear hcl hr
      go_upto_region 5 with fail
      have hbk := Blk.new wr 61 #[.int .i64 (ra : Int), .int .i64 (rr : Int), .int .i64 (rl : Int), .int .i64 uk, .string unum, .string uden, .string utext, .bool uon, .int .i64 ucode, .int .i64 urows, .int .i64 ucols, .slice uA un uc]
      have HBA := Lib.hid (HB.out.alloc HB.out.size (.cells #[.int .i64 (ra : Int), .int .i64 (rr : Int), .int .i64 (rl : Int), .int .i64 uk, .string unum, .string uden, .string utext, .bool uon, .int .i64 ucode, .int .i64 urows, .int .i64 ucols, .slice uA un uc] 61))
      have HOA := Lib.hid (RowOf.alloc HO.out (.cells #[.int .i64 (ra : Int), .int .i64 (rr : Int), .int .i64 (rl : Int), .int .i64 uk, .string unum, .string uden, .string utext, .bool uon, .int .i64 ucode, .int .i64 urows, .int .i64 ucols, .slice uA un uc] 61))
      clear e0 e1 e2 e3 e4 e5 e6 e7 e8 e9 e10 e11 HB HO
      revert hbk HBA HOA
      generalize wr.alloc (.cells #[.int .i64 (ra : Int), .int .i64 (rr : Int), .int .i64 (rl : Int), .int .i64 uk, .string unum, .string uden, .string utext, .bool uon, .int .i64 ucode, .int .i64 urows, .int .i64 ucols, .slice uA un uc] 61) = W1
      intro hbk HBA HOA
      have c0 : W1.cell? ⟨wr.heap.size, 0, none⟩ = some (.int .i64 (ra : Int)) := hbk.cell 0
      have c1 : W1.cell? ⟨wr.heap.size, 1, none⟩ = some (.int .i64 (rr : Int)) := hbk.cell 1
      have c2 : W1.cell? ⟨wr.heap.size, 2, none⟩ = some (.int .i64 (rl : Int)) := hbk.cell 2
      have c3 : W1.cell? ⟨wr.heap.size, 3, none⟩ = some (.int .i64 uk) := hbk.cell 3
      have c4 : W1.cell? ⟨wr.heap.size, 4, none⟩ = some (.string unum) := hbk.cell 4
      have c5 : W1.cell? ⟨wr.heap.size, 5, none⟩ = some (.string uden) := hbk.cell 5
      have c6 : W1.cell? ⟨wr.heap.size, 6, none⟩ = some (.string utext) := hbk.cell 6
      have c7 : W1.cell? ⟨wr.heap.size, 7, none⟩ = some (.bool uon) := hbk.cell 7
      have c8 : W1.cell? ⟨wr.heap.size, 8, none⟩ = some (.int .i64 ucode) := hbk.cell 8
      have c9 : W1.cell? ⟨wr.heap.size, 9, none⟩ = some (.int .i64 urows) := hbk.cell 9
      have c10 : W1.cell? ⟨wr.heap.size, 10, none⟩ = some (.int .i64 ucols) := hbk.cell 10
      have c11 : W1.cell? ⟨wr.heap.size, 11, none⟩ = some (.slice uA un uc) := hbk.cell 11
      have HSZ := Lib.hid HBA.out.size
      have hi0 : ¬ (i : Int) < 0 := by omega
      have hk0 : ¬ (k : Int) < 0 := by omega
      by_cases h1 : rr = i
      · have e1 : ((rr : Int) == (i : Int)) = true := by rw [beq_iff_eq]; omega
        by_cases h2 : rl = k
        · have e2 : ((rl : Int) == (k : Int)) = true := by rw [beq_iff_eq]; omega
          subst h1 h2
          go_wp2_with (at_builtin; go_loud (refine wp_row1 54 61 12 136 rmC _ Tryz.underlying54 rec_info rfl (by decide) rm_one rfl _ _ rfl w.heap.size _ _ rfl HOA.out ⟨ra, rr, rl, ⟨uk, unum, uden, utext, uon, ucode, urows, ucols, uA, un, uc⟩⟩ _ ?_ rfl (by omega) (by unfold maxLen; omega) HSZ.out ?_); (rfl); intro v3 w3 ho hb hg; have HO3 := Lib.hid ho; have HB3 := Lib.hid (HBA.out.trans (hb.mono (Nat.le_refl _))); clear ho hb hg)
          go_roundw
          case rel => exact ⟨j + 1, by omega, by go_num, Lib.hid (by rw [HGj.out, if_pos ⟨rfl, rfl⟩]; exact HO3.out), HB3⟩
          case measure => simp [intOf]; omega
        · have e2 : ((rl : Int) == (k : Int)) = false := by rw [beq_eq_false_iff_ne]; omega
          go_wp2_with fail
          go_roundw
          case rel => exact ⟨j + 1, by omega, by go_num, Lib.hid (by rw [HGj.out, if_neg (fun h => h2 h.2)]; exact HOA.out), HBA⟩
          case measure => simp [intOf]; omega
      · have e1 : ((rr : Int) == (i : Int)) = false := by rw [beq_eq_false_iff_ne]; omega
        go_wp2_with fail
        go_roundw
        case rel => exact ⟨j + 1, by omega, by go_num, Lib.hid (by rw [HGj.out, if_neg (fun h => h1 h.1)]; exact HOA.out), HBA⟩
        case measure => simp [intOf]; omega
    · have hlz : ¬ (j : Int) < (R : Int) := by omega
      obtain rfl : j = R := by omega
      go_wp2_with fail
      go_ret
      exact ⟨_, rfl, by rw [← HGE.out]; exact HO.out, HB.out⟩
end Go.Proofs.YtmapagbmihpbmaaGreatDoor

namespace Go.Proofs.YtmapagbmihpbmaaGreatDoor
open Go.RowKit

def frC (n : Nat) : List Value := [.string (nt n), .string ⟨#[49]⟩]
theorem fr_one (n : Nat) : (frC n).length = 2 ∧ ∀ u ∈ frC n, u.oneCell' = true := ⟨rfl, by simp [frC, Value.oneCell']⟩
theorem fr_info : (Tryz.prog.info? 24).map (fun i => (i.zero, i.size, i.bytes)) = some (some (.agg #[.string ⟨#[]⟩, .string ⟨#[]⟩]), 2, 32) := by kernel_rfl
/-- What is combined: the sum of the numbers, or their count. -/
def resN (N : Rm → Nat) (how : Int) (L : List Rm) : Nat := if how = 1 then L.length else Pv.sm N L
theorem Blk.grown {α : Type} {E t : TypeId} {size : Nat} {f : α → List Value} {W W' : World} {b g : Nat} {v : Value} {l : List α} {cs : Array Value} (h : Blk W g t cs) (hg : W.grownBy W' v.ownBlock) (ho : RowOf E size f W b v l) (hne : t ≠ E) : Blk W' g t cs :=
  (Chg.grownK hg).blk h h.lt fun hm => by
    obtain ⟨cs', h'⟩ := RowOf.typed ho g hm
    exact Blk.ne_ h h' hne rfl
theorem sm_take (N : Rm → Nat) (L : List Rm) (j : Nat) (h : j < L.length) : Pv.sm N (L.take (j + 1)) = Pv.sm N (L.take j) + N L[j]! := by
  rw [getElem!_pos L j h, ← List.take_append_getElem h, Pv.sm_app, Pv.sm_cons, Pv.sm_nil]; omega
set_option maxRecDepth 100000 in
set_option maxHeartbeats 16000000 in
theorem result_any (N : Rm → Nat) (how : Int) (A : Option Addr) (n c : Nat) (L : List Rm) (w : World) (he : VEnv w) (hL : Reads 12 rmC w (.slice A n c) L) (hn : n ≤ 14) (hN : ∀ r ∈ L, r.v = nV (N r) ∧ N r ≤ 50) (hh : how = 0 ∨ how = 1) :
    Calls Tryz.prog 19 #[.slice A n c, .int .i64 how] w fun e w' => e = .returned (nV (resN N how L)).v ∧ Below w.heap.size w w' := by
  have hl : L.length = n := by
    obtain ⟨A', c', e, -⟩ := hL
    injection e with e1 e2 e3
    exact e2.symm
  have HPT := Lib.hid he.pw
  have HC := Lib.hid (show ∀ j (hj : j < n), ∃ (b o ra rr rl : Nat) (tn : ByteArray), A = some ⟨b, o, none⟩ ∧ tn = nt (N L[j]!) ∧ ∀ W, Below w.heap.size w W → ∀ q, q < 12 → W.cell? ⟨b, o + j * 12 + q, none⟩ = (#[.int .i64 (ra : Int), .int .i64 (rr : Int), .int .i64 (rl : Int), .int .i64 1, .string tn, .string ⟨#[49]⟩, .string ⟨#[]⟩, .bool false, .int .i64 0, .int .i64 0, .int .i64 0, .slice none 0 0] : Array Value)[q]? from fun j hj => by
    obtain ⟨A', c', e, -, -, h3⟩ := hL
    injection e with e1 e2 e3
    obtain ⟨b, o, e4, hb, hc⟩ := h3 (by omega)
    have hm : L[j]! ∈ L := by rw [getElem!_pos L j (by omega)]; exact List.getElem_mem _
    have hv := (hN _ hm).1
    refine ⟨b, o, L[j]!.at_, L[j]!.row, L[j]!.col, _, e1.trans e4, rfl, fun W hW q hq => ?_⟩
    have := hc j (by omega) q hq
    rw [← getElem!_pos L j (by omega), ← Nat.add_assoc] at this
    refine ((hW.cell (by exact hb)).trans this).trans ?_
    unfold rmC
    rw [hv]
    simp [nV, Vl.cs])
  have HNM := Lib.hid (show ∀ j, j < n → ((L.take (j + 1)).map N) = (L.take j).map N ++ [N L[j]!] from fun j hj => by
    rw [getElem!_pos L j (by omega), ← List.take_append_getElem (by omega), List.map_append]; rfl)
  have hsm : ∀ j, Pv.sm N (L.take j) ≤ 700 := fun j => by
    have h1 := Pv.sm_le N 50 (L.take j) (fun r hr => (hN r (List.mem_of_mem_take hr)).2)
    have h2 : (L.take j).length ≤ 14 := Nat.le_trans (List.length_take_le' _ _) (by omega)
    omega
  have HSM := Lib.hid hsm
  have HNB := Lib.hid (show ∀ j, j < n → N L[j]! ≤ 50 from fun j hj => (hN _ (by rw [getElem!_pos L j (by omega)]; exact List.getElem_mem _)).2)
  have HST := Lib.hid (show ∀ j, j < n → Pv.sm N (L.take (j + 1)) = Pv.sm N (L.take j) + N L[j]! from fun j hj => sm_take N L j (by omega))
  have HEN := Lib.hid (show L.take n = L from List.take_of_length_le (by omega))
  have HHL := Lib.hid hl
  have HE := Lib.hid he
  have HL0 := Lib.hid ((Loc.start w).alloc' rfl 27 #[.int .i64 0, .string ⟨#[]⟩, .string ⟨#[]⟩, .string ⟨#[]⟩, .bool false, .int .i64 0, .int .i64 0, .int .i64 0, .slice none 0 0])
  clear hL hN he hsm hl
  have hml : ∀ j, ((L.take j).map N).length ≤ 14 := fun j => by rw [List.length_map]; exact Nat.le_trans (List.length_take_le' _ _) (by have := HHL.out; omega)
  have HML := Lib.hid hml
  clear hml
  go_enter Tryz.func19, Tryz.ntmps19
  go_wp2_with fail
  go_loopw [5, 6, 16] (fun u5 u6 u16 wr => ∃ j : Nat, j ≤ n ∧ u6 = .int .i64 j ∧ u16 = .int .i64 j ∧ Hid (RowOf 24 2 frC wr (w.heap.size + 1) u5 ((L.take j).map N)) ∧ Hid (Loc w [(w.heap.size, 27, #[.int .i64 0, .string ⟨#[]⟩, .string ⟨#[]⟩, .string ⟨#[]⟩, .bool false, .int .i64 0, .int .i64 0, .int .i64 0, .slice none 0 0])] wr)) (fun _ _ u _ => n - (intOf u).toNat)
  case atStart => exact ⟨0, by omega, rfl, rfl, Lib.hid (RowOf.nil _ _), HL0⟩
  case round =>
    clear HL0
    obtain ⟨j, hj, rfl, rfl, HO, HL⟩ := hrel
    by_cases hlt : j < n
    · have hlz : (j : Int) < (n : Int) := by omega
      obtain ⟨b, o, ra, rr, rl, tn, rfl, htn, hcl⟩ := HC.out j hlt
      have HTN := Lib.hid htn
      have hml := HML.out j
      have e0 : wr.cell? ⟨b, o + j * 12, none⟩ = some (.int .i64 (ra : Int)) := hcl wr HL.out.bel 0 (by decide)
      have e1 : wr.cell? ⟨b, o + j * 12 + 1, none⟩ = some (.int .i64 (rr : Int)) := hcl wr HL.out.bel 1 (by decide)
      have e2 : wr.cell? ⟨b, o + j * 12 + 2, none⟩ = some (.int .i64 (rl : Int)) := hcl wr HL.out.bel 2 (by decide)
      have e3 : wr.cell? ⟨b, o + j * 12 + 3, none⟩ = some (.int .i64 1) := hcl wr HL.out.bel 3 (by decide)
      have e4 : wr.cell? ⟨b, o + j * 12 + 4, none⟩ = some (.string tn) := hcl wr HL.out.bel 4 (by decide)
      have e5 : wr.cell? ⟨b, o + j * 12 + 5, none⟩ = some (.string ⟨#[49]⟩) := hcl wr HL.out.bel 5 (by decide)
      have e6 : wr.cell? ⟨b, o + j * 12 + 6, none⟩ = some (.string ⟨#[]⟩) := hcl wr HL.out.bel 6 (by decide)
      have e7 : wr.cell? ⟨b, o + j * 12 + 7, none⟩ = some (.bool false) := hcl wr HL.out.bel 7 (by decide)
      have e8 : wr.cell? ⟨b, o + j * 12 + 8, none⟩ = some (.int .i64 0) := hcl wr HL.out.bel 8 (by decide)
      have e9 : wr.cell? ⟨b, o + j * 12 + 9, none⟩ = some (.int .i64 0) := hcl wr HL.out.bel 9 (by decide)
      have e10 : wr.cell? ⟨b, o + j * 12 + 10, none⟩ = some (.int .i64 0) := hcl wr HL.out.bel 10 (by decide)
      have e11 : wr.cell? ⟨b, o + j * 12 + 11, none⟩ = some (.slice none 0 0) := hcl wr HL.out.bel 11 (by decide)
      clear hcl htn
      have HB0 := Lib.hid (HL.out.lt (g := w.heap.size) (t := 27) (List.mem_singleton.2 rfl))
      go_upto_region 6 with fail
      have hbk := Blk.new wr 61 #[.int .i64 (ra : Int), .int .i64 (rr : Int), .int .i64 (rl : Int), .int .i64 1, .string tn, .string ⟨#[49]⟩, .string ⟨#[]⟩, .bool false, .int .i64 0, .int .i64 0, .int .i64 0, .slice none 0 0]
      have HLA := Lib.hid (HL.out.alloc0 (.cells #[.int .i64 (ra : Int), .int .i64 (rr : Int), .int .i64 (rl : Int), .int .i64 1, .string tn, .string ⟨#[49]⟩, .string ⟨#[]⟩, .bool false, .int .i64 0, .int .i64 0, .int .i64 0, .slice none 0 0] 61))
      have HOA := Lib.hid (RowOf.alloc HO.out (.cells #[.int .i64 (ra : Int), .int .i64 (rr : Int), .int .i64 (rl : Int), .int .i64 1, .string tn, .string ⟨#[49]⟩, .string ⟨#[]⟩, .bool false, .int .i64 0, .int .i64 0, .int .i64 0, .slice none 0 0] 61))
      have HBA := Lib.hid (show w.heap.size + 1 ≤ (wr.alloc (.cells #[.int .i64 (ra : Int), .int .i64 (rr : Int), .int .i64 (rl : Int), .int .i64 1, .string tn, .string ⟨#[49]⟩, .string ⟨#[]⟩, .bool false, .int .i64 0, .int .i64 0, .int .i64 0, .slice none 0 0] 61)).heap.size from by simp; have := HB0.out; omega)
      clear e0 e1 e2 e3 e4 e5 e6 e7 e8 e9 e10 e11 HL HO HB0
      revert hbk HLA HOA HBA
      generalize wr.alloc (.cells #[.int .i64 (ra : Int), .int .i64 (rr : Int), .int .i64 (rl : Int), .int .i64 1, .string tn, .string ⟨#[49]⟩, .string ⟨#[]⟩, .bool false, .int .i64 0, .int .i64 0, .int .i64 0, .slice none 0 0] 61) = W1
      intro hbk HLA HOA HBA
      have f0 : W1.cell? ⟨wr.heap.size, 0, none⟩ = some (.int .i64 (ra : Int)) := hbk.cell 0
      have f1 : W1.cell? ⟨wr.heap.size, 1, none⟩ = some (.int .i64 (rr : Int)) := hbk.cell 1
      have f2 : W1.cell? ⟨wr.heap.size, 2, none⟩ = some (.int .i64 (rl : Int)) := hbk.cell 2
      have f3 : W1.cell? ⟨wr.heap.size, 3, none⟩ = some (.int .i64 1) := hbk.cell 3
      have f4 : W1.cell? ⟨wr.heap.size, 4, none⟩ = some (.string tn) := hbk.cell 4
      have f5 : W1.cell? ⟨wr.heap.size, 5, none⟩ = some (.string ⟨#[49]⟩) := hbk.cell 5
      have f6 : W1.cell? ⟨wr.heap.size, 6, none⟩ = some (.string ⟨#[]⟩) := hbk.cell 6
      have f7 : W1.cell? ⟨wr.heap.size, 7, none⟩ = some (.bool false) := hbk.cell 7
      have f8 : W1.cell? ⟨wr.heap.size, 8, none⟩ = some (.int .i64 0) := hbk.cell 8
      have f9 : W1.cell? ⟨wr.heap.size, 9, none⟩ = some (.int .i64 0) := hbk.cell 9
      have f10 : W1.cell? ⟨wr.heap.size, 10, none⟩ = some (.int .i64 0) := hbk.cell 10
      have f11 : W1.cell? ⟨wr.heap.size, 11, none⟩ = some (.slice none 0 0) := hbk.cell 11
      go_wp2_with (at_builtin; go_loud (refine wp_row1 94 24 2 32 frC _ Tryz.underlying94 fr_info rfl (by decide) fr_one rfl _ _ rfl (w.heap.size + 1) _ _ rfl HOA.out (N L[j]!) _ ?_ rfl (by omega) (by unfold maxLen; omega) HBA.out ?_); (rw [HTN.out]; rfl); intro v3 w3 ho hb hg; have x3 : w3.cell? ⟨wr.heap.size, 3, none⟩ = some (.int .i64 1) := (Blk.grown (hbk.alloc _) hg (RowOf.alloc HOA.out _) (by decide)).cell 3; have HO3 := Lib.hid ho; have HL3 := Lib.hid (HLA.out.stepB' hb (by omega) (fun x hx => by rw [List.mem_singleton.1 hx]; exact Nat.lt_succ_self _)); clear ho hb hg)
      go_roundw
      case rel => exact ⟨j + 1, by omega, by go_num, by go_num, Lib.hid (by rw [HNM.out j hlt]; exact HO3.out), HL3⟩
      case measure => simp [intOf]; omega
    · have hlz : ¬ (j : Int) < (n : Int) := by omega
      obtain rfl : j = n := by omega
      have hO := HO.out
      rw [HEN.out] at hO
      have HO := Lib.hid hO
      clear hO HC HNM HML
      have HZ := Lib.hid (HL.out.blk (g := w.heap.size) (t := 27) (List.mem_singleton.2 rfl))
      rcases hh with rfl | rfl
      · obtain ⟨A5, c5, h5⟩ := (RowOf.reads HO.out (fun x => (fr_one x).1)).shape
        rw [List.length_map, HHL.out] at h5
        subst h5
        rcases (show ((j : Int) == 0) = true ∨ ((j : Int) == 0) = false by cases ((j : Int) == 0) <;> simp) with hb0 | hb0
        all_goals
          obtain ⟨t0, ht0⟩ : ∃ t, t = nt 0 := ⟨_, rfl⟩
          have HT0 := Lib.hid ht0
          have HOF := Lib.hid (show Calls Tryz.prog 7 #[.int .i64 0] wr fun e w' => e = .returned (.agg #[.string t0, .string ⟨#[49]⟩]) ∧ Below wr.heap.size wr w' from by rw [ht0]; exact of_t 0 wr (by decide) (Lib.tabBelow_of_tabIs HPT.out wr HL.out.bel))
          clear ht0
          go_wp2_with (go_at_call 7; (with_reducible refine HOF.out.mono ?_); rintro e w1 ⟨rfl, hb⟩; have HL1 := Lib.hid (HL.out.step hb); have HO1 := Lib.hid (RowOf.later HO.out hb); clear hb)
          have hRD := RowOf.reads HO1.out (fun x => (fr_one x).1)
          have HRD := Lib.hid hRD
          obtain ⟨A5', c5', h5, -, -, h5c⟩ := hRD
          injection h5 with h5 h5b h5d
          subst h5 h5d
          clear h5b
          have HCC := Lib.hid (show ∀ q, q < j → ∃ b o tn, A5 = some ⟨b, o, none⟩ ∧ tn = nt (N L[q]!) ∧ ∀ W, Below w1.heap.size w1 W → W.cell? ⟨b, o + q * 2, none⟩ = some (.string tn) ∧ W.cell? ⟨b, o + q * 2 + 1, none⟩ = some (.string ⟨#[49]⟩) from fun q hq => by
            have hq' : q < L.length := by rw [HHL.out]; exact hq
            obtain ⟨b, o, e4, hb, hc⟩ := h5c (by rw [List.length_map]; omega)
            refine ⟨b, o, _, e4, rfl, fun W hW => ⟨(hW.cell (by exact hb)).trans ?_, (hW.cell (by exact hb)).trans ?_⟩⟩
            · have := hc q (by rw [List.length_map]; exact hq') 0 (by decide)
              rw [List.getElem_map, ← getElem!_pos L q hq', Nat.add_zero] at this
              exact this
            · have := hc q (by rw [List.length_map]; exact hq') 1 (by decide)
              rw [List.getElem_map, ← getElem!_pos L q hq', ← Nat.add_assoc] at this
              exact this)
          have HL2 := Lib.hid (HL1.out.alloc' (g := w1.heap.size) rfl 24 #[.string t0, .string ⟨#[49]⟩])
          have HWW := Lib.hid (show w.heap.size < w1.heap.size from HL1.out.lt (g := w.heap.size) (t := 27) (List.mem_singleton.2 rfl))
          have HB2 := Lib.hid ((Below.refl w1.heap.size w1).alloc (Nat.le_refl _) (.cells #[.string t0, .string ⟨#[49]⟩] 24))
          clear h5c HRD HL HL1 HOF HO1 HO HZ
          go_loopw [76] (fun u76 wr => ∃ (q : Nat) (ts : ByteArray), q ≤ j ∧ u76 = .int .i64 q ∧ ts = nt (Pv.sm N (L.take q)) ∧ Hid (Loc w [(w1.heap.size, 24, #[.string ts, .string ⟨#[49]⟩]), (w.heap.size, 27, #[.int .i64 0, .string ⟨#[]⟩, .string ⟨#[]⟩, .string ⟨#[]⟩, .bool false, .int .i64 0, .int .i64 0, .int .i64 0, .slice none 0 0])] wr) ∧ Hid (Below w1.heap.size w1 wr)) (fun u _ => j - (intOf u).toNat)
          case atStart => exact ⟨0, t0, by omega, rfl, HT0.out, HL2, HB2⟩
          case round =>
            clear HL2 HB2
            obtain ⟨q, ts, hq, rfl, hts, HL, HB⟩ := hrel
            have bs := HL.out.blk (g := w1.heap.size) (t := 24) (List.mem_cons_self ..)
            have HBS := Lib.hid bs
            obtain ⟨x0, x1, y0, y1⟩ := bs.two
            clear bs
            by_cases hqt : q < j
            · have hqz : (q : Int) < (j : Int) := by omega
              obtain ⟨b, o, tn, rfl, htn, hcl⟩ := HCC.out q hqt
              obtain ⟨v0, v1⟩ := hcl wr HB.out
              have hs1 := HSM.out q
              have hs2 := HNB.out q hqt
              obtain ⟨tm, htm⟩ : ∃ tm, tm = nt (Pv.sm N (L.take (q + 1))) := ⟨_, rfl⟩
              have HTM := Lib.hid htm
              have HAD := Lib.hid (show ∀ W, Below wr.heap.size wr W → Calls Tryz.prog 8 #[.agg #[.string ts, .string ⟨#[49]⟩], .agg #[.string tn, .string ⟨#[49]⟩]] W fun e w' => e = .returned (.tuple #[.agg #[.string tm, .string ⟨#[49]⟩], .int .i64 0]) ∧ Below W.heap.size W w' from fun W hW => by
                rw [hts, htn, htm, HST.out q hqt]
                exact add_nat _ _ W (by omega) (by omega) (Lib.tabBelow_of_tabIs HPT.out W (HL.out.bel.trans (hW.mono HL.out.bel.size))))
              clear hcl htm hts htn
              go_upto_region 24 with fail
              have HLA := Lib.hid (HL.out.alloc0 (.cells #[.string tn, .string ⟨#[49]⟩] 24))
              have hbA : Below wr.heap.size wr (wr.alloc (.cells #[.string tn, .string ⟨#[49]⟩] 24)) := (Below.refl _ _).alloc (Nat.le_refl _) _
              have HBA := Lib.hid hbA
              have p0 : (wr.alloc (.cells #[.string tn, .string ⟨#[49]⟩] 24)).cell? ⟨wr.heap.size, 0, none⟩ = some (.string tn) := (Blk.new wr 24 #[.string tn, .string ⟨#[49]⟩]).cell 0
              have p1 : (wr.alloc (.cells #[.string tn, .string ⟨#[49]⟩] 24)).cell? ⟨wr.heap.size, 1, none⟩ = some (.string ⟨#[49]⟩) := (Blk.new wr 24 #[.string tn, .string ⟨#[49]⟩]).cell 1
              have HBB := Lib.hid (HB.out.trans (hbA.mono HB.out.size))
              clear x0 x1 y0 y1 v0 v1 hbA
              revert HLA HBA p0 p1 HBB
              generalize wr.alloc (.cells #[.string tn, .string ⟨#[49]⟩] 24) = W1
              intro HLA HBA p0 p1 HBB
              obtain ⟨x0, x1, y0, y1⟩ := (HLA.out.blk (g := w1.heap.size) (t := 24) (List.mem_cons_self ..)).two
              go_wp2_with (go_at_call 8; (with_reducible refine (HAD.out _ HBA.out).mono ?_); go_loud (rintro e w5 ⟨rfl, hb⟩); go_loud (have HL5 := Lib.hid (HLA.out.step hb)); go_loud (have HB5 := Lib.hid (HBB.out.trans (hb.mono HBB.out.size))); go_loud (clear hb x0 x1 y0 y1); go_loud (obtain ⟨x0, x1, y0, y1⟩ := (HL5.out.blk (g := w1.heap.size) (t := 24) (List.mem_cons_self ..)).two))
              go_roundw
              case rel => exact ⟨q + 1, tm, by omega, by go_num, HTM.out, Lib.hid (HL5.out.set2 (fun x hx => by rw [List.mem_singleton.1 hx]; exact Nat.ne_of_lt HWW.out) _ _), Lib.hid (below_two HB5.out (Nat.le_refl _) _ _)⟩
              case measure => simp [intOf]; omega
            · have hqz : ¬ (q : Int) < (j : Int) := by omega
              obtain rfl : q = j := by omega
              rw [HEN.out] at hts
              have HTS := Lib.hid hts
              have hs1 := HSM.out q
              rw [HEN.out] at hs1
              have HNU := Lib.hid (show Calls Tryz.prog 44 #[.agg #[.string ts, .string ⟨#[49]⟩]] wr fun e w' => e = .returned (.agg #[.int .i64 1, .string ts, .string ⟨#[49]⟩, .string ⟨#[]⟩, .bool false, .int .i64 0, .int .i64 0, .int .i64 0, .slice none 0 0]) ∧ Below wr.heap.size wr w' from by rw [hts]; exact num_nat _ wr (HE.out.below HL.out.bel) (by omega))
              clear hts
              go_wp2_with (go_at_call 44; (with_reducible refine HNU.out.mono ?_); rintro e w6 ⟨rfl, hb⟩; have HL6 := Lib.hid (HL.out.step hb); have bz := HL6.out.blk (g := w.heap.size) (t := 27) (cs := #[.int .i64 0, .string ⟨#[]⟩, .string ⟨#[]⟩, .string ⟨#[]⟩, .bool false, .int .i64 0, .int .i64 0, .int .i64 0, .slice none 0 0]) (List.mem_cons_of_mem _ (List.mem_singleton.2 rfl)); obtain ⟨z0, z1, z2, z3, z4, z5, z6, z7, z8⟩ := bz.nine; obtain ⟨f0, f1, f2, f3, f4, f5, f6, f7, f8⟩ := bz.ninef; obtain ⟨bs, c0, c1, c2, c3, c4, c5, c6, c7, c8⟩ := bz.nine_set (.int .i64 1) (.string ts) (.string ⟨#[49]⟩) (.string ⟨#[]⟩) (.bool false) (.int .i64 0) (.int .i64 0) (.int .i64 0) (.slice none 0 0); have BS := Lib.hid bs; clear bz bs hb)
              obtain ⟨q0, q1, q2, q3, q4, q5, q6, q7, q8⟩ := BS.out.nine
              refine bodyPost_ret (v := .agg #[.int .i64 1, .string ts, .string ⟨#[49]⟩, .string ⟨#[]⟩, .bool false, .int .i64 0, .int .i64 0, .int .i64 0, .slice none 0 0]) (by simp [results, Tryz.results19, go_sem, q0, q1, q2, q3, q4, q5, q6, q7, q8]) rfl ⟨?_, below_nine HL6.out.bel (Nat.le_refl _) _ _ _ _ _ _ _ _ _⟩
              rw [HTS.out]
              unfold resN
              rw [if_neg (by decide)]
              rfl
      · have HW := Lib.hid (whole_t j wr (by omega) (Lib.tabBelow_of_tabIs HPT.out wr HL.out.bel))
        obtain ⟨t, ht⟩ : ∃ t, t = nt j := ⟨_, rfl⟩
        have HT := Lib.hid ht
        have HW := Lib.hid (show Calls Tryz.prog 16 #[.int .i64 (j : Int)] wr fun e w' => e = .returned (.agg #[.int .i64 1, .string t, .string ⟨#[49]⟩, .string ⟨#[]⟩, .bool false, .int .i64 0, .int .i64 0, .int .i64 0, .slice none 0 0]) ∧ Below wr.heap.size wr w' from by rw [ht]; exact HW.out)
        clear ht
        go_wp2_with (go_at_call 16; (with_reducible refine HW.out.mono ?_); rintro e w1 ⟨rfl, hb⟩; have HL1 := Lib.hid (HL.out.step hb); have bz := HL1.out.blk (g := w.heap.size) (t := 27) (cs := #[.int .i64 0, .string ⟨#[]⟩, .string ⟨#[]⟩, .string ⟨#[]⟩, .bool false, .int .i64 0, .int .i64 0, .int .i64 0, .slice none 0 0]) (List.mem_singleton.2 rfl); obtain ⟨z0, z1, z2, z3, z4, z5, z6, z7, z8⟩ := bz.nine; obtain ⟨f0, f1, f2, f3, f4, f5, f6, f7, f8⟩ := bz.ninef; obtain ⟨bs, c0, c1, c2, c3, c4, c5, c6, c7, c8⟩ := bz.nine_set (.int .i64 1) (.string t) (.string ⟨#[49]⟩) (.string ⟨#[]⟩) (.bool false) (.int .i64 0) (.int .i64 0) (.int .i64 0) (.slice none 0 0); have BS := Lib.hid bs; clear bz bs hb)
        obtain ⟨q0, q1, q2, q3, q4, q5, q6, q7, q8⟩ := BS.out.nine
        refine bodyPost_ret (v := .agg #[.int .i64 1, .string t, .string ⟨#[49]⟩, .string ⟨#[]⟩, .bool false, .int .i64 0, .int .i64 0, .int .i64 0, .slice none 0 0]) (by simp [results, Tryz.results19, go_sem, q0, q1, q2, q3, q4, q5, q6, q7, q8]) rfl ⟨?_, below_nine HL1.out.bel (Nat.le_refl _) _ _ _ _ _ _ _ _ _⟩
        rw [HT.out]
        unfold resN
        rw [if_pos rfl, HHL.out]
        rfl
end Go.Proofs.YtmapagbmihpbmaaGreatDoor

namespace Go.Proofs.YtmapagbmihpbmaaGreatDoor
open Go.RowKit

def mnL : List Nat → Nat
  | [] => 0
  | [x] => x
  | x :: y :: t => min x (mnL (y :: t))
def mxL : List Nat → Nat
  | [] => 0
  | x :: t => max x (mxL t)
theorem mnL_cons (x : Nat) (l : List Nat) (h : l ≠ []) : mnL (x :: l) = min x (mnL l) := by
  cases l with
  | nil => exact absurd rfl h
  | cons y t => rfl
theorem mnL_snoc : ∀ (l : List Nat) (x : Nat), l ≠ [] → mnL (l ++ [x]) = min (mnL l) x
  | [], _, h => absurd rfl h
  | [y], x, _ => rfl
  | y :: z :: t, x, _ => by
    have ih := mnL_snoc (z :: t) x (by simp)
    have e1 : mnL (y :: (z :: t ++ [x])) = min y (mnL (z :: t ++ [x])) := mnL_cons _ _ (by simp)
    have e2 : mnL (y :: z :: t) = min y (mnL (z :: t)) := mnL_cons _ _ (by simp)
    show mnL (y :: (z :: t ++ [x])) = _
    rw [e1, ih, e2, Nat.min_assoc]
theorem mxL_snoc : ∀ (l : List Nat) (x : Nat), mxL (l ++ [x]) = max (mxL l) x
  | [], x => by simp [mxL]
  | y :: t, x => by
    rw [List.cons_append, mxL, mxL_snoc t x, mxL, Nat.max_assoc]
theorem mnL_le : ∀ (l : List Nat) (b : Nat), (∀ x ∈ l, x ≤ b) → mnL l ≤ b
  | [], _, _ => Nat.zero_le _
  | [x], _, h => h x (by simp)
  | x :: y :: t, b, h => Nat.le_trans (Nat.min_le_left _ _) (h x (by simp))
theorem mxL_le : ∀ (l : List Nat) (b : Nat), (∀ x ∈ l, x ≤ b) → mxL l ≤ b
  | [], _, _ => Nat.zero_le _
  | x :: t, b, h => by
    rw [mxL]
    exact Nat.max_le.2 ⟨h x (by simp), mxL_le t b (fun y hy => h y (List.mem_cons_of_mem _ hy))⟩
theorem mnL_take (l : List Nat) (i : Nat) (h0 : 1 ≤ i) (h : i < l.length) : mnL (l.take (i + 1)) = min (mnL (l.take i)) l[i]! := by
  rw [getElem!_pos l i h, ← List.take_append_getElem h]
  exact mnL_snoc _ _ (fun e => by
    have h9 : (l.take i).length = 0 := by rw [e]; rfl
    rw [List.length_take] at h9
    omega)
theorem mxL_take (l : List Nat) (i : Nat) (_h0 : 1 ≤ i) (h : i < l.length) : mxL (l.take (i + 1)) = max (mxL (l.take i)) l[i]! := by
  rw [getElem!_pos l i h, ← List.take_append_getElem h]
  exact mxL_snoc _ _
theorem mn_one (l : List Nat) (h : 1 ≤ l.length) : mnL (l.take 1) = l[0]! := by
  cases l with
  | nil => simp at h
  | cons x t => rfl
theorem mx_one (l : List Nat) (h : 1 ≤ l.length) : mxL (l.take 1) = l[0]! := by
  cases l with
  | nil => simp at h
  | cons x t => simp [mxL]
set_option maxRecDepth 100000 in
set_option maxHeartbeats 4000000 in
theorem end1_any (M N : Nat) (w : World) (hM : M ≤ 1000) (hN : N ≤ 1000) : Calls Tryz.prog 70 #[.agg #[.string (nt M), .string ⟨#[49]⟩], .agg #[.string (nt N), .string ⟨#[49]⟩]] w fun e w' => e = .returned (.int .i64 (Int.sign ((M : Int) - N))) ∧ Below w.heap.size w w' := by
  obtain ⟨s, hs⟩ : ∃ s, s = Int.sign ((M : Int) - N) := ⟨_, rfl⟩
  rw [← hs]
  have HC := Lib.hid (show ∀ W, Calls Tryz.prog 71 #[.agg #[.string (nt M), .string ⟨#[49]⟩], .agg #[.string (nt N), .string ⟨#[49]⟩]] W fun e w' => e = .returned (.tuple #[.int .i64 s, .int .i64 0]) ∧ Below W.heap.size W w' from fun W => (compare_q (nt M) ⟨#[49]⟩ (nt N) ⟨#[49]⟩ (M : Int) (N : Int) 1 1 40 40 W (pv_qk M (by omega)) (pv_qk N (by omega))).mono (fun e w' ⟨r, h1, h2, h3⟩ => by
    rw [show (M : Int) * ((1 : Nat) : Int) - (N : Int) * ((1 : Nat) : Int) = (M : Int) - N by push_cast; omega, ← hs] at h2
    subst h2
    exact ⟨h1, h3⟩))
  obtain ⟨tm, htm⟩ : ∃ t, t = nt M := ⟨_, rfl⟩
  obtain ⟨tn, htn⟩ : ∃ t, t = nt N := ⟨_, rfl⟩
  rw [← htm, ← htn] at HC
  rw [← htm, ← htn]
  have HL0 := Lib.hid (((Loc.start w).alloc' rfl 24 #[.string tm, .string ⟨#[49]⟩]).alloc' (g := w.heap.size + 1) (by simp) 24 #[.string tn, .string ⟨#[49]⟩])
  clear hs htm htn
  go_enter Tryz.func70, Tryz.ntmps70
  go_wp2_with (go_at_call 71; (with_reducible refine (HC.out _).mono ?_); rintro e w1 ⟨rfl, hb⟩; have HL1 := Lib.hid (HL0.out.step hb); clear hb)
  go_ret
  exact ⟨rfl, HL1.out.bel⟩
set_option maxRecDepth 100000 in
set_option maxHeartbeats 8000000 in
theorem minf_any (A : Option Addr) (n c : Nat) (l : List Nat) (w : World) (hL : Reads 2 frC w (.slice A n c) l) (h1 : 1 ≤ n) (hn : n ≤ 100) (hb : ∀ x ∈ l, x ≤ 1000) :
    Calls Tryz.prog 72 #[.slice A n c, .func (.func 70) #[] #[]] w fun e w' => e = .returned (.agg #[.string (nt (mnL l)), .string ⟨#[49]⟩]) ∧ Below w.heap.size w w' := by
  have hl : l.length = n := by
    obtain ⟨A', c', e, -⟩ := hL
    injection e with e1 e2 e3
    exact e2.symm
  have HC := Lib.hid (show ∀ i, i < n → ∃ (b o : Nat) (t : ByteArray), A = some ⟨b, o, none⟩ ∧ t = nt l[i]! ∧ l[i]! ≤ 1000 ∧ ∀ W, Below w.heap.size w W → W.cell? ⟨b, o + i * 2, none⟩ = some (.string t) ∧ W.cell? ⟨b, o + i * 2 + 1, none⟩ = some (.string ⟨#[49]⟩) from fun i hi => by
    obtain ⟨A', c', e, -, -, h3⟩ := hL
    injection e with e1 e2 e3
    obtain ⟨b, o, e4, hb', hc⟩ := h3 (by omega)
    have hi' : i < l.length := by omega
    have hm : l[i]! ∈ l := by rw [getElem!_pos l i hi']; exact List.getElem_mem _
    refine ⟨b, o, _, e1.trans e4, rfl, hb _ hm, fun W hW => ⟨(hW.cell (by exact hb')).trans ?_, (hW.cell (by exact hb')).trans ?_⟩⟩
    · have := hc i hi' 0 (by decide)
      rw [← getElem!_pos l i hi'] at this
      exact this
    · have := hc i hi' 1 (by decide)
      rw [← getElem!_pos l i hi'] at this
      exact this)
  have HLE := Lib.hid (show ∀ i, mnL (l.take i) ≤ 1000 from fun i => mnL_le _ _ (fun x hx => hb x (List.mem_of_mem_take hx)))
  have HTK := Lib.hid (show ∀ i, 1 ≤ i → i < n → mnL (l.take (i + 1)) = min (mnL (l.take i)) l[i]! from fun i h0 hi => mnL_take l i h0 (by omega))
  have HFN := Lib.hid (show l.take n = l from List.take_of_length_le (by omega))
  have HON := Lib.hid (show mnL (l.take 1) = l[0]! from mn_one l (by omega))
  have HL0 := Lib.hid ((Loc.start w).alloc' rfl 24 #[.string ⟨#[]⟩, .string ⟨#[]⟩])
  clear hL hl hb
  obtain ⟨b, o, t0, rfl, ht0, -, hc0⟩ := HC.out 0 (by omega)
  obtain ⟨x0, x1⟩ := hc0 _ HL0.out.bel
  rw [Nat.zero_mul, Nat.add_zero] at x0 x1
  have HT0 := Lib.hid ht0
  clear hc0 ht0
  have hnz : ¬ (n : Int) < 1 := by omega
  have h0z : (0 : Int) < (n : Int) := by omega
  go_enter Tryz.func72, Tryz.ntmps72
  go_wp2_with fail
  clear x0 x1 hnz h0z
  have HL1 := Lib.hid (HL0.out.alloc' (g := w.heap.size + 1) (by simp) 24 #[.string t0, .string ⟨#[49]⟩])
  go_loopw [6] (fun u6 wr => ∃ (i : Nat) (t : ByteArray), 1 ≤ i ∧ i ≤ n ∧ u6 = .int .i64 i ∧ Hid (t = nt (mnL (l.take i))) ∧ Hid (Loc w [(w.heap.size + 1, 24, #[.string t, .string ⟨#[49]⟩]), (w.heap.size, 24, #[.string ⟨#[]⟩, .string ⟨#[]⟩])] wr)) (fun u _ => n - (intOf u).toNat)
  case atStart => exact ⟨1, t0, Nat.le_refl _, h1, rfl, Lib.hid (by rw [HT0.out, HON.out]), HL1⟩
  case round =>
    clear HL0 HL1 HT0
    obtain ⟨i, t, hi1, hi, rfl, HT, HL⟩ := hrel
    by_cases hlt : i < n
    · have hlz : (i : Int) < (n : Int) := by omega
      have hiz : (0 : Int) ≤ (i : Int) := by omega
      obtain ⟨b', o', tx, e, htx, hx, hcl⟩ := HC.out i hlt
      injection e with e
      injection e with e e'
      subst e e'
      obtain ⟨s, hs⟩ : ∃ s, s = Int.sign ((l[i]! : Int) - (mnL (l.take i) : Nat)) := ⟨_, rfl⟩
      have hm := HLE.out i
      have HE := Lib.hid (show ∀ W, Calls Tryz.prog 70 #[.agg #[.string tx, .string ⟨#[49]⟩], .agg #[.string t, .string ⟨#[49]⟩]] W fun e w' => e = .returned (.int .i64 s) ∧ Below W.heap.size W w' from fun W => by
        rw [htx, HT.out, hs]
        exact end1_any _ _ W hx hm)
      have hsn : s < 0 ↔ l[i]! < mnL (l.take i) := by
        rw [hs]
        rw [Int.sign_neg_iff]
        omega
      have HS1 := Lib.hid (show ∀ W, Loc w [(w.heap.size + 1, 24, #[.string t, .string ⟨#[49]⟩]), (w.heap.size, 24, #[.string ⟨#[]⟩, .string ⟨#[]⟩])] W → (W.cell? ⟨b, o + i * 2, none⟩ = some (.string tx) ∧ W.cell? ⟨b, o + i * 2 + 1, none⟩ = some (.string ⟨#[49]⟩)) ∧ W.cell? ⟨w.heap.size + 1, 0, none⟩ = some (.string t) ∧ W.cell? ⟨w.heap.size + 1, 1, none⟩ = some (.string ⟨#[49]⟩) from fun W h => ⟨hcl W h.bel, (h.blk (g := w.heap.size + 1) (t := 24) (List.mem_cons_self ..)).cell 0, (h.blk (g := w.heap.size + 1) (t := 24) (List.mem_cons_self ..)).cell 1⟩)
      have HTX := Lib.hid htx
      have HSN := Lib.hid hsn
      clear hcl htx hs hx hm hsn
      go_upto_region 7 with fail
      refine wp_region_G (S1 := fun W => (W.cell? ⟨b, o + i * 2, none⟩ = some (.string tx) ∧ W.cell? ⟨b, o + i * 2 + 1, none⟩ = some (.string ⟨#[49]⟩)) ∧ W.cell? ⟨w.heap.size + 1, 0, none⟩ = some (.string t) ∧ W.cell? ⟨w.heap.size + 1, 1, none⟩ = some (.string ⟨#[49]⟩)) (S2 := fun _ => True) (d := 99) (by kernel_rfl) (HS1.out _ HL.out.drew) trivial (fun hT => ?_)
      refine wpAnyG_take1d (i := 0) (v := ?_) rfl rfl (by kernel_rfl) (by kernel_rfl) (by kernel_rfl) (by kernel_rfl) (fun _ _ _ h => h) (Or.inl ⟨by rfl, ?_⟩) (by assumption) (fun hT => ?_)
      rotate_left
      · intro w hSw
        (try dsimp only at hSw)
        go_simp
        (try with_reducible rfl)
      (try simp only [Act.put, List.setIfInBounds_toArray, List.set_cons_zero, List.set_cons_succ])
      refine wpAnyG_take1d (i := 1) (v := ?_) rfl rfl (by kernel_rfl) (by kernel_rfl) (by kernel_rfl) (by kernel_rfl) (fun _ _ _ h => h) (Or.inl ⟨by rfl, ?_⟩) (by assumption) (fun hT => ?_)
      rotate_left
      · intro w hSw
        (try dsimp only at hSw)
        go_simp
        (try with_reducible rfl)
      (try simp only [Act.put, List.setIfInBounds_toArray, List.set_cons_zero, List.set_cons_succ])
      refine wpAnyG_take1d (i := 2) (v := ?_) rfl rfl (by kernel_rfl) (by kernel_rfl) (by kernel_rfl) (by kernel_rfl) (fun _ _ _ h => h) (Or.inl ⟨by rfl, ?_⟩) (by assumption) (fun hT => ?_)
      rotate_left
      · intro w hSw
        (try dsimp only at hSw)
        go_simp
        (try with_reducible rfl)
      (try simp only [Act.put, List.setIfInBounds_toArray, List.set_cons_zero, List.set_cons_succ])
      refine wpAnyG_take1d (i := 3) (v := ?_) rfl rfl (by kernel_rfl) (by kernel_rfl) (by kernel_rfl) (by kernel_rfl) (fun _ _ _ h => h) (Or.inl ⟨by rfl, ?_⟩) (by assumption) (fun hT => ?_)
      rotate_left
      · intro w hSw
        (try dsimp only at hSw)
        go_simp
        (try with_reducible rfl)
      (try simp only [Act.put, List.setIfInBounds_toArray, List.set_cons_zero, List.set_cons_succ])
      refine wpAnyG_take1d (i := 4) (v := ?_) rfl rfl (by kernel_rfl) (by kernel_rfl) (by kernel_rfl) (by kernel_rfl) (fun _ _ _ h => h) (Or.inl ⟨by rfl, ?_⟩) (by assumption) (fun hT => ?_)
      rotate_left
      · intro w hSw
        (try dsimp only at hSw)
        go_simp
        (try with_reducible rfl)
      (try simp only [Act.put, List.setIfInBounds_toArray, List.set_cons_zero, List.set_cons_succ])
      refine wpAnyG_take1d (i := 5) (v := ?_) rfl rfl (by kernel_rfl) (by kernel_rfl) (by kernel_rfl) (by kernel_rfl) (fun _ _ _ h => h) (Or.inl ⟨by rfl, ?_⟩) (by assumption) (fun hT => ?_)
      rotate_left
      · intro w hSw
        (try dsimp only at hSw)
        go_simp
        (try with_reducible rfl)
      (try simp only [Act.put, List.setIfInBounds_toArray, List.set_cons_zero, List.set_cons_succ])
      refine wpAnyG_ready (rs := [6]) (by kernel_rfl) (by simp) ?_
      refine AllG.cons (i := 6) rfl (fun K hK => ?_) AllG.nil
      go_simp
      go_at_call 70
      with_reducible refine (HE.out _).mono ?_
      rintro e w1 ⟨rfl, hb⟩
      have HL1 := Lib.hid (HL.out.drew.step hb)
      clear hb
      refine hK.out _ _ ⟨HS1.out _ HL1.out, .inr trivial⟩ (fun hT => ?_)
      clear hK K
      (try simp only [Act.put, List.setIfInBounds_toArray, List.set_cons_zero, List.set_cons_succ])
      refine wpAnyG_take1d (i := 7) (v := ?_) rfl rfl (by kernel_rfl) (by kernel_rfl) (by kernel_rfl) (by kernel_rfl) (fun _ _ _ h => h) (Or.inl ⟨by rfl, ?_⟩) (by assumption) (fun hT => ?_)
      rotate_left
      · intro w hSw
        (try dsimp only at hSw)
        go_simp
        (try with_reducible rfl)
      (try simp only [Act.put, List.setIfInBounds_toArray, List.set_cons_zero, List.set_cons_succ])
      refine wpAnyG_done (by kernel_rfl) ?_ _
      obtain ⟨⟨x0, x1⟩, y0, y1⟩ := HS1.out _ HL1.out
      have f0 := (HL1.out.blk (g := w.heap.size + 1) (t := 24) (List.mem_cons_self ..)).frozen 0
      have f1 := (HL1.out.blk (g := w.heap.size + 1) (t := 24) (List.mem_cons_self ..)).frozen 1
      by_cases hc : s < 0
      · have HL2 := Lib.hid (HSN.out.1 hc)
        (try simp only [hc, decide_true, decide_false])
        go_wp2_with fail
        go_roundw
        case rel => exact ⟨i + 1, tx, by omega, by omega, by go_num, Lib.hid (by rw [HTK.out i hi1 hlt, HTX.out]; have := HL2.out; congr 1; omega), Lib.hid (HL1.out.set2 (fun x hx => by rw [List.mem_singleton.1 hx]; dsimp only; omega) _ _)⟩
        case measure => simp [intOf]; omega
      · have HL2 := Lib.hid (show ¬ _ from fun h => hc (HSN.out.2 h))
        (try simp only [hc, decide_true, decide_false])
        go_wp2_with fail
        go_roundw
        case rel => exact ⟨i + 1, t, by omega, by omega, by go_num, Lib.hid (by rw [HTK.out i hi1 hlt, HT.out]; have := HL2.out; congr 1; omega), HL1⟩
        case measure => simp [intOf]; omega
    · have hlz : ¬ (i : Int) < (n : Int) := by omega
      obtain rfl : n = i := by omega
      rw [HFN.out] at HT
      obtain ⟨y0, y1⟩ : wr.cell? ⟨w.heap.size + 1, 0, none⟩ = some (.string t) ∧ wr.cell? ⟨w.heap.size + 1, 1, none⟩ = some (.string ⟨#[49]⟩) := ⟨(HL.out.blk (g := w.heap.size + 1) (t := 24) (List.mem_cons_self ..)).cell 0, (HL.out.blk (g := w.heap.size + 1) (t := 24) (List.mem_cons_self ..)).cell 1⟩
      have bz := HL.out.blk (g := w.heap.size) (t := 24) (List.mem_cons_of_mem _ (List.mem_cons_self ..))
      obtain ⟨z0, z1, f0, f1⟩ := bz.two
      have HBZ := Lib.hid bz
      clear bz
      go_wp2_with fail
      obtain ⟨q0, q1, -, -⟩ := (HBZ.out.two_set (.string t) (.string ⟨#[49]⟩)).1.two
      refine bodyPost_ret (v := .agg #[.string t, .string ⟨#[49]⟩]) (by simp [results, Tryz.results72, go_sem, q0, q1]) rfl ⟨by rw [HT.out], below_two HL.out.bel (Nat.le_refl _) _ _⟩
set_option maxRecDepth 100000 in
set_option maxHeartbeats 8000000 in
theorem maxf_any (A : Option Addr) (n c : Nat) (l : List Nat) (w : World) (hL : Reads 2 frC w (.slice A n c) l) (h1 : 1 ≤ n) (hn : n ≤ 100) (hb : ∀ x ∈ l, x ≤ 1000) :
    Calls Tryz.prog 73 #[.slice A n c, .func (.func 70) #[] #[]] w fun e w' => e = .returned (.agg #[.string (nt (mxL l)), .string ⟨#[49]⟩]) ∧ Below w.heap.size w w' := by
  have hl : l.length = n := by
    obtain ⟨A', c', e, -⟩ := hL
    injection e with e1 e2 e3
    exact e2.symm
  have HC := Lib.hid (show ∀ i, i < n → ∃ (b o : Nat) (t : ByteArray), A = some ⟨b, o, none⟩ ∧ t = nt l[i]! ∧ l[i]! ≤ 1000 ∧ ∀ W, Below w.heap.size w W → W.cell? ⟨b, o + i * 2, none⟩ = some (.string t) ∧ W.cell? ⟨b, o + i * 2 + 1, none⟩ = some (.string ⟨#[49]⟩) from fun i hi => by
    obtain ⟨A', c', e, -, -, h3⟩ := hL
    injection e with e1 e2 e3
    obtain ⟨b, o, e4, hb', hc⟩ := h3 (by omega)
    have hi' : i < l.length := by omega
    have hm : l[i]! ∈ l := by rw [getElem!_pos l i hi']; exact List.getElem_mem _
    refine ⟨b, o, _, e1.trans e4, rfl, hb _ hm, fun W hW => ⟨(hW.cell (by exact hb')).trans ?_, (hW.cell (by exact hb')).trans ?_⟩⟩
    · have := hc i hi' 0 (by decide)
      rw [← getElem!_pos l i hi'] at this
      exact this
    · have := hc i hi' 1 (by decide)
      rw [← getElem!_pos l i hi'] at this
      exact this)
  have HLE := Lib.hid (show ∀ i, mxL (l.take i) ≤ 1000 from fun i => mxL_le _ _ (fun x hx => hb x (List.mem_of_mem_take hx)))
  have HTK := Lib.hid (show ∀ i, 1 ≤ i → i < n → mxL (l.take (i + 1)) = max (mxL (l.take i)) l[i]! from fun i h0 hi => mxL_take l i h0 (by omega))
  have HFN := Lib.hid (show l.take n = l from List.take_of_length_le (by omega))
  have HON := Lib.hid (show mxL (l.take 1) = l[0]! from mx_one l (by omega))
  have HL0 := Lib.hid ((Loc.start w).alloc' rfl 24 #[.string ⟨#[]⟩, .string ⟨#[]⟩])
  clear hL hl hb
  obtain ⟨b, o, t0, rfl, ht0, -, hc0⟩ := HC.out 0 (by omega)
  obtain ⟨x0, x1⟩ := hc0 _ HL0.out.bel
  rw [Nat.zero_mul, Nat.add_zero] at x0 x1
  have HT0 := Lib.hid ht0
  clear hc0 ht0
  have hnz : ¬ (n : Int) < 1 := by omega
  have h0z : (0 : Int) < (n : Int) := by omega
  go_enter Tryz.func73, Tryz.ntmps73
  go_wp2_with fail
  clear x0 x1 hnz h0z
  have HL1 := Lib.hid (HL0.out.alloc' (g := w.heap.size + 1) (by simp) 24 #[.string t0, .string ⟨#[49]⟩])
  go_loopw [6] (fun u6 wr => ∃ (i : Nat) (t : ByteArray), 1 ≤ i ∧ i ≤ n ∧ u6 = .int .i64 i ∧ Hid (t = nt (mxL (l.take i))) ∧ Hid (Loc w [(w.heap.size + 1, 24, #[.string t, .string ⟨#[49]⟩]), (w.heap.size, 24, #[.string ⟨#[]⟩, .string ⟨#[]⟩])] wr)) (fun u _ => n - (intOf u).toNat)
  case atStart => exact ⟨1, t0, Nat.le_refl _, h1, rfl, Lib.hid (by rw [HT0.out, HON.out]), HL1⟩
  case round =>
    clear HL0 HL1 HT0
    obtain ⟨i, t, hi1, hi, rfl, HT, HL⟩ := hrel
    by_cases hlt : i < n
    · have hlz : (i : Int) < (n : Int) := by omega
      have hiz : (0 : Int) ≤ (i : Int) := by omega
      obtain ⟨b', o', tx, e, htx, hx, hcl⟩ := HC.out i hlt
      injection e with e
      injection e with e e'
      subst e e'
      obtain ⟨s, hs⟩ : ∃ s, s = Int.sign ((l[i]! : Int) - (mxL (l.take i) : Nat)) := ⟨_, rfl⟩
      have hm := HLE.out i
      have HE := Lib.hid (show ∀ W, Calls Tryz.prog 70 #[.agg #[.string tx, .string ⟨#[49]⟩], .agg #[.string t, .string ⟨#[49]⟩]] W fun e w' => e = .returned (.int .i64 s) ∧ Below W.heap.size W w' from fun W => by
        rw [htx, HT.out, hs]
        exact end1_any _ _ W hx hm)
      have hsn : s > 0 ↔ mxL (l.take i) < l[i]! := by
        rw [hs]
        rw [gt_iff_lt, Int.sign_pos_iff]
        omega
      have HS1 := Lib.hid (show ∀ W, Loc w [(w.heap.size + 1, 24, #[.string t, .string ⟨#[49]⟩]), (w.heap.size, 24, #[.string ⟨#[]⟩, .string ⟨#[]⟩])] W → (W.cell? ⟨b, o + i * 2, none⟩ = some (.string tx) ∧ W.cell? ⟨b, o + i * 2 + 1, none⟩ = some (.string ⟨#[49]⟩)) ∧ W.cell? ⟨w.heap.size + 1, 0, none⟩ = some (.string t) ∧ W.cell? ⟨w.heap.size + 1, 1, none⟩ = some (.string ⟨#[49]⟩) from fun W h => ⟨hcl W h.bel, (h.blk (g := w.heap.size + 1) (t := 24) (List.mem_cons_self ..)).cell 0, (h.blk (g := w.heap.size + 1) (t := 24) (List.mem_cons_self ..)).cell 1⟩)
      have HTX := Lib.hid htx
      have HSN := Lib.hid hsn
      clear hcl htx hs hx hm hsn
      go_upto_region 7 with fail
      refine wp_region_G (S1 := fun W => (W.cell? ⟨b, o + i * 2, none⟩ = some (.string tx) ∧ W.cell? ⟨b, o + i * 2 + 1, none⟩ = some (.string ⟨#[49]⟩)) ∧ W.cell? ⟨w.heap.size + 1, 0, none⟩ = some (.string t) ∧ W.cell? ⟨w.heap.size + 1, 1, none⟩ = some (.string ⟨#[49]⟩)) (S2 := fun _ => True) (d := 99) (by kernel_rfl) (HS1.out _ HL.out.drew) trivial (fun hT => ?_)
      refine wpAnyG_take1d (i := 0) (v := ?_) rfl rfl (by kernel_rfl) (by kernel_rfl) (by kernel_rfl) (by kernel_rfl) (fun _ _ _ h => h) (Or.inl ⟨by rfl, ?_⟩) (by assumption) (fun hT => ?_)
      rotate_left
      · intro w hSw
        (try dsimp only at hSw)
        go_simp
        (try with_reducible rfl)
      (try simp only [Act.put, List.setIfInBounds_toArray, List.set_cons_zero, List.set_cons_succ])
      refine wpAnyG_take1d (i := 1) (v := ?_) rfl rfl (by kernel_rfl) (by kernel_rfl) (by kernel_rfl) (by kernel_rfl) (fun _ _ _ h => h) (Or.inl ⟨by rfl, ?_⟩) (by assumption) (fun hT => ?_)
      rotate_left
      · intro w hSw
        (try dsimp only at hSw)
        go_simp
        (try with_reducible rfl)
      (try simp only [Act.put, List.setIfInBounds_toArray, List.set_cons_zero, List.set_cons_succ])
      refine wpAnyG_take1d (i := 2) (v := ?_) rfl rfl (by kernel_rfl) (by kernel_rfl) (by kernel_rfl) (by kernel_rfl) (fun _ _ _ h => h) (Or.inl ⟨by rfl, ?_⟩) (by assumption) (fun hT => ?_)
      rotate_left
      · intro w hSw
        (try dsimp only at hSw)
        go_simp
        (try with_reducible rfl)
      (try simp only [Act.put, List.setIfInBounds_toArray, List.set_cons_zero, List.set_cons_succ])
      refine wpAnyG_take1d (i := 3) (v := ?_) rfl rfl (by kernel_rfl) (by kernel_rfl) (by kernel_rfl) (by kernel_rfl) (fun _ _ _ h => h) (Or.inl ⟨by rfl, ?_⟩) (by assumption) (fun hT => ?_)
      rotate_left
      · intro w hSw
        (try dsimp only at hSw)
        go_simp
        (try with_reducible rfl)
      (try simp only [Act.put, List.setIfInBounds_toArray, List.set_cons_zero, List.set_cons_succ])
      refine wpAnyG_take1d (i := 4) (v := ?_) rfl rfl (by kernel_rfl) (by kernel_rfl) (by kernel_rfl) (by kernel_rfl) (fun _ _ _ h => h) (Or.inl ⟨by rfl, ?_⟩) (by assumption) (fun hT => ?_)
      rotate_left
      · intro w hSw
        (try dsimp only at hSw)
        go_simp
        (try with_reducible rfl)
      (try simp only [Act.put, List.setIfInBounds_toArray, List.set_cons_zero, List.set_cons_succ])
      refine wpAnyG_take1d (i := 5) (v := ?_) rfl rfl (by kernel_rfl) (by kernel_rfl) (by kernel_rfl) (by kernel_rfl) (fun _ _ _ h => h) (Or.inl ⟨by rfl, ?_⟩) (by assumption) (fun hT => ?_)
      rotate_left
      · intro w hSw
        (try dsimp only at hSw)
        go_simp
        (try with_reducible rfl)
      (try simp only [Act.put, List.setIfInBounds_toArray, List.set_cons_zero, List.set_cons_succ])
      refine wpAnyG_ready (rs := [6]) (by kernel_rfl) (by simp) ?_
      refine AllG.cons (i := 6) rfl (fun K hK => ?_) AllG.nil
      go_simp
      go_at_call 70
      with_reducible refine (HE.out _).mono ?_
      rintro e w1 ⟨rfl, hb⟩
      have HL1 := Lib.hid (HL.out.drew.step hb)
      clear hb
      refine hK.out _ _ ⟨HS1.out _ HL1.out, .inr trivial⟩ (fun hT => ?_)
      clear hK K
      (try simp only [Act.put, List.setIfInBounds_toArray, List.set_cons_zero, List.set_cons_succ])
      refine wpAnyG_take1d (i := 7) (v := ?_) rfl rfl (by kernel_rfl) (by kernel_rfl) (by kernel_rfl) (by kernel_rfl) (fun _ _ _ h => h) (Or.inl ⟨by rfl, ?_⟩) (by assumption) (fun hT => ?_)
      rotate_left
      · intro w hSw
        (try dsimp only at hSw)
        go_simp
        (try with_reducible rfl)
      (try simp only [Act.put, List.setIfInBounds_toArray, List.set_cons_zero, List.set_cons_succ])
      refine wpAnyG_done (by kernel_rfl) ?_ _
      obtain ⟨⟨x0, x1⟩, y0, y1⟩ := HS1.out _ HL1.out
      have f0 := (HL1.out.blk (g := w.heap.size + 1) (t := 24) (List.mem_cons_self ..)).frozen 0
      have f1 := (HL1.out.blk (g := w.heap.size + 1) (t := 24) (List.mem_cons_self ..)).frozen 1
      by_cases hc : s > 0
      · have HL2 := Lib.hid (HSN.out.1 hc)
        (try simp only [hc, decide_true, decide_false])
        go_wp2_with fail
        go_roundw
        case rel => exact ⟨i + 1, tx, by omega, by omega, by go_num, Lib.hid (by rw [HTK.out i hi1 hlt, HTX.out]; have := HL2.out; congr 1; omega), Lib.hid (HL1.out.set2 (fun x hx => by rw [List.mem_singleton.1 hx]; dsimp only; omega) _ _)⟩
        case measure => simp [intOf]; omega
      · have HL2 := Lib.hid (show ¬ _ from fun h => hc (HSN.out.2 h))
        (try simp only [hc, decide_true, decide_false])
        go_wp2_with fail
        go_roundw
        case rel => exact ⟨i + 1, t, by omega, by omega, by go_num, Lib.hid (by rw [HTK.out i hi1 hlt, HT.out]; have := HL2.out; congr 1; omega), HL1⟩
        case measure => simp [intOf]; omega
    · have hlz : ¬ (i : Int) < (n : Int) := by omega
      obtain rfl : n = i := by omega
      rw [HFN.out] at HT
      obtain ⟨y0, y1⟩ : wr.cell? ⟨w.heap.size + 1, 0, none⟩ = some (.string t) ∧ wr.cell? ⟨w.heap.size + 1, 1, none⟩ = some (.string ⟨#[49]⟩) := ⟨(HL.out.blk (g := w.heap.size + 1) (t := 24) (List.mem_cons_self ..)).cell 0, (HL.out.blk (g := w.heap.size + 1) (t := 24) (List.mem_cons_self ..)).cell 1⟩
      have bz := HL.out.blk (g := w.heap.size) (t := 24) (List.mem_cons_of_mem _ (List.mem_cons_self ..))
      obtain ⟨z0, z1, f0, f1⟩ := bz.two
      have HBZ := Lib.hid bz
      clear bz
      go_wp2_with fail
      obtain ⟨q0, q1, -, -⟩ := (HBZ.out.two_set (.string t) (.string ⟨#[49]⟩)).1.two
      refine bodyPost_ret (v := .agg #[.string t, .string ⟨#[49]⟩]) (by simp [results, Tryz.results73, go_sem, q0, q1]) rfl ⟨by rw [HT.out], below_two HL.out.bel (Nat.le_refl _) _ _⟩
end Go.Proofs.YtmapagbmihpbmaaGreatDoor

namespace Go.Proofs.YtmapagbmihpbmaaGreatDoor
open Go.RowKit

/-- Rows of records in three arrays of headers; the bag has all rows under one numbering. -/
structure BS (w W : World) (L : List (Nat × TypeId × Array Value)) (B M g1 nm g2 n g3 m : Nat) (H : Nat → SV) (F : Nat → List Rm) (Ha Hb Hc : Nat → SV) : Prop where
  loc : Loc w L W
  bag : Bg W B M H F
  a1 : HR W B g1 nm Ha
  a2 : HR W B g2 n Hb
  a3 : HR W B g3 m Hc
  base : B ≤ W.heap.size
  low : w.heap.size ≤ B
  own : ∀ x ∈ L, x.1 < B
/-- A block with one record that stands apart from the rows. -/
structure Ap (W : World) (B M : Nat) (H : Nat → SV) (cs : Array Value) (b : Nat) : Prop where
  blk : Blk W b 61 cs
  le : B ≤ b
  sep : ∀ x, x < M → (sv3 (H x)).ownBlock ≠ some b
section
variable {w W W' : World} {L : List (Nat × TypeId × Array Value)} {B M g1 nm g2 n g3 m : Nat} {H : Nat → SV} {F : Nat → List Rm} {Ha Hb Hc : Nat → SV} {cs : Array Value} {b : Nat}
theorem BS.later (h : BS w W L B M g1 nm g2 n g3 m H F Ha Hb Hc) (hb : Below W.heap.size W W') : BS w W' L B M g1 nm g2 n g3 m H F Ha Hb Hc :=
  ⟨h.loc.step hb, h.bag.later hb, h.a1.later hb, h.a2.later hb, h.a3.later hb, Nat.le_trans h.base hb.size, h.low, h.own⟩
theorem BS.drew (h : BS w W L B M g1 nm g2 n g3 m H F Ha Hb Hc) : BS w W.drew L B M g1 nm g2 n g3 m H F Ha Hb Hc := ⟨h.loc.drew, h.bag.drew, h.a1, h.a2, h.a3, h.base, h.low, h.own⟩
theorem BS.alloc (h : BS w W L B M g1 nm g2 n g3 m H F Ha Hb Hc) (o : Obj) : BS w (W.alloc o) L B M g1 nm g2 n g3 m H F Ha Hb Hc := h.later ((Below.refl _ _).alloc (Nat.le_refl _) _)
theorem Ap.later (h : Ap W B M H cs b) (hb : Below W.heap.size W W') : Ap W' B M H cs b := ⟨h.blk.later hb, h.le, h.sep⟩
theorem Ap.new (h : Bg W B M H F) (hB : B ≤ W.heap.size) : Ap (W.alloc (.cells cs 61)) B M H cs W.heap.size :=
  ⟨Blk.new _ _ _, hB, fun x hx e => by
    have := (RowOf.lt (h.row x hx) _ e).2
    omega⟩
/-- One of the rows grows. -/
theorem BS.app (h : BS w W L B M g1 nm g2 n g3 m H F Ha Hb Hc) {x : Nat} (hx : x < M) {v : SV} {l : List Rm} (h1 : RO W' B (sv3 v) l) (h0 : Below B W W') (h2 : W.grownBy W' (sv3 (H x)).ownBlock) (h3 : (sv3 v).ownBlock = (sv3 (H x)).ownBlock ∨ (sv3 v).ownBlock = some W.heap.size) : BS w W' L B M g1 nm g2 n g3 m (up H x v) (up F x l) Ha Hb Hc := by
  have hne : 54 ≠ 61 := by decide
  have hr := h.bag.row x hx
  have hA : ∀ {g N : Nat} {H' : Nat → SV}, HR W B g N H' → HR W' B g N H' := fun {g N H'} ha => by
    refine ha.chg (Chg.grownK h2) fun hm => ?_
    obtain ⟨c, ha⟩ := ha
    exact RowOf.apart2 ha hr hne (g := g) rfl (by simpa using hm)
  exact ⟨h.loc.stepB' h0 h.low h.own, h.bag.app hx h1 h2 (h3.imp id fun e => ⟨_, e, Nat.le_refl _⟩), hA h.a1, hA h.a2, hA h.a3, Nat.le_trans h.base h0.size, h.low, h.own⟩
theorem Ap.app (h : Ap W B M H cs b) {x : Nat} (hx : x < M) {v : SV} (h2 : W.grownBy W' (sv3 (H x)).ownBlock) (h3 : (sv3 v).ownBlock = (sv3 (H x)).ownBlock ∨ (sv3 v).ownBlock = some W.heap.size) : Ap W' B M (up H x v) cs b := by
  refine ⟨(h2.block b h.blk.lt (Ne.symm (h.sep x hx))).trans h.blk, h.le, fun y hy e => ?_⟩
  by_cases hyx : y = x
  · subst hyx
    rw [up_same] at e
    rcases h3 with h3 | h3
    · rw [h3] at e
      exact h.sep y hx e
    · rw [h3] at e
      injection e with e
      have := h.blk.lt
      omega
  · rw [up_ne _ _ _ _ hyx] at e
    exact h.sep y hy e
end
def rA (r : Rm) : Array Value := #[.int .i64 r.at_, .int .i64 r.row, .int .i64 r.col, .int .i64 r.v.k, .string r.v.num, .string r.v.den, .string r.v.text, .bool r.v.on, .int .i64 r.v.code, .int .i64 r.v.rows, .int .i64 r.v.cols, .slice r.v.A r.v.n r.v.c]
theorem rA_list (r : Rm) : (rA r).toList = rmC r := rfl
section
variable {ops : Array Oper} {o : Oper} {a : Act} {K : Act → World → Prop} {Q : Exit → Act → World → Prop} {X : Prop}
theorem step_b {W : World} (hgd : o.guard = none) {t : Nat} (ho : o.op = .buildSlice 54 1 #[(0, .tmp t)]) (r : Rm) (hx : a.eval (.tmp t) = .agg (rA r)) (h : K (a.put o.dst (.slice (some ⟨W.heap.size, 0, none⟩) 1 1)) (W.alloc (.cells (rA r) 61))) :
    if Region.wanted o (yielded ops a.tmps) = true then Oper.wp Tryz.prog o a W K Q else X := by
  have hw : Region.wanted o (yielded ops a.tmps) = true := by simp [Region.wanted, hgd]
  rw [if_pos hw]
  obtain ⟨dst, op, ty, after, guard⟩ := o
  dsimp only at ho hgd h
  subst ho hgd
  unfold rA at hx h
  have hx : a.tmps.getD t undef = _ := hx
  rw [Array.getD_eq_getD_getElem?] at hx
  go_simp
  (try simp only [hx])
  (try go_simp)
  exact h
set_option maxHeartbeats 4000000
/-- The act but for what the three steps put. -/
structure Agr (a0 a : Act) : Prop where
  defers : a.defers = a0.defers
  size : a.tmps.size = a0.tmps.size
  rest : ∀ k, k ≠ 90 → k ≠ 91 → k ≠ 98 → k ≠ 99 → k ≠ 106 → k ≠ 107 → a.tmps.getD k undef = a0.tmps.getD k undef
theorem Agr.refl (a : Act) : Agr a a := ⟨rfl, rfl, fun _ _ _ _ _ _ _ => rfl⟩
theorem put_ne (a : Act) (d k : Nat) (v : Value) (h : k ≠ d) : (a.put (some d) v).tmps.getD k undef = a.tmps.getD k undef := by
  unfold Act.put
  simp [Array.getD_eq_getD_getElem?, Array.getElem?_setIfInBounds, Ne.symm h]
theorem put_same (a : Act) (d : Nat) (v : Value) (h : d < a.tmps.size) : (a.put (some d) v).tmps.getD d undef = v := by
  unfold Act.put
  simp [Array.getD_eq_getD_getElem?, h]
theorem put_size (a : Act) (d : Nat) (v : Value) : (a.put (some d) v).tmps.size = a.tmps.size := by simp [Act.put]
theorem act_ext {a b : Act} (hd : a.defers = b.defers) (hs : a.tmps.size = b.tmps.size) (h : ∀ k, a.tmps.getD k undef = b.tmps.getD k undef) : a = b := by
  obtain ⟨t, df⟩ := a
  obtain ⟨t0, df0⟩ := b
  dsimp only at hd hs h
  have ht : t = t0 := by
    apply Array.ext hs
    intro k h1 h2
    have := h k
    simpa [Array.getD_eq_getD_getElem?, h1, h2] using this
  rw [hd, ht]
theorem Agr.put {a0 a : Act} (h : Agr a0 a) (d : Nat) (hd : d = 90 ∨ d = 91 ∨ d = 98 ∨ d = 99 ∨ d = 106 ∨ d = 107) (v : Value) : Agr a0 (a.put (some d) v) :=
  ⟨h.defers, by simpa [Act.put] using h.size, fun k h90 h91 h98 h99 h106 h107 => by
    rw [put_ne _ _ _ _ (by omega)]
    exact h.rest k h90 h91 h98 h99 h106 h107⟩
theorem Agr.eq {a0 a : Act} (h : Agr a0 a) (hs : 107 < a0.tmps.size) {x90 x91 x98 x99 x106 x107 : Value} (e90 : a.tmps.getD 90 undef = x90) (e91 : a.tmps.getD 91 undef = x91) (e98 : a.tmps.getD 98 undef = x98) (e99 : a.tmps.getD 99 undef = x99) (e106 : a.tmps.getD 106 undef = x106) (e107 : a.tmps.getD 107 undef = x107) : a = (((((a0.put (some 90) x90).put (some 91) x91).put (some 98) x98).put (some 99) x99).put (some 106) x106).put (some 107) x107 := by
  refine act_ext h.defers (by simp only [put_size, h.size]) fun k => ?_
  by_cases h107 : k = 107
  · rw [h107, e107, put_same _ _ _ (by (try simp only [put_size]); omega)]
  rw [put_ne _ _ _ _ h107]
  by_cases h106 : k = 106
  · rw [h106, e106, put_same _ _ _ (by (try simp only [put_size]); omega)]
  rw [put_ne _ _ _ _ h106]
  by_cases h99 : k = 99
  · rw [h99, e99, put_same _ _ _ (by (try simp only [put_size]); omega)]
  rw [put_ne _ _ _ _ h99]
  by_cases h98 : k = 98
  · rw [h98, e98, put_same _ _ _ (by (try simp only [put_size]); omega)]
  rw [put_ne _ _ _ _ h98]
  by_cases h91 : k = 91
  · rw [h91, e91, put_same _ _ _ (by (try simp only [put_size]); omega)]
  rw [put_ne _ _ _ _ h91]
  by_cases h90 : k = 90
  · rw [h90, e90, put_same _ _ _ (by (try simp only [put_size]); omega)]
  rw [put_ne _ _ _ _ h90]
  exact h.rest k h90 h91 h98 h99 h106 h107
end
end Go.Proofs.YtmapagbmihpbmaaGreatDoor

namespace Go.Proofs.YtmapagbmihpbmaaGreatDoor
open Go.RowKit

structure Cx where
  w : World
  L : List (Nat × TypeId × Array Value)
  B : Nat
  M : Nat
  g1 : Nat
  nm : Nat
  g2 : Nat
  n : Nat
  g3 : Nat
  m : Nat
  Ha : Nat → SV
  Hb : Nat → SV
  Hc : Nat → SV
  p : Nat
  r : Rm
  x1 : Nat
  x2 : Nat
  x3 : Nat
  H0 : Nat → SV
  F0 : Nat → List Rm
def Cx.BS (c : Cx) (W : World) (H : Nat → SV) (F : Nat → List Rm) : Prop := Go.Proofs.YtmapagbmihpbmaaGreatDoor.BS c.w W c.L c.B c.M c.g1 c.nm c.g2 c.n c.g3 c.m H F c.Ha c.Hb c.Hc
def Cx.H (c : Cx) : Nat → SV → SV → SV → Nat → SV
  | 0, _, _, _ => c.H0
  | 1, v1, _, _ => up c.H0 c.x1 v1
  | 2, v1, v2, _ => up (up c.H0 c.x1 v1) c.x2 v2
  | _, v1, v2, v3 => up (up (up c.H0 c.x1 v1) c.x2 v2) c.x3 v3
def Cx.F (c : Cx) : Nat → Nat → List Rm
  | 0 => c.F0
  | 1 => up c.F0 c.x1 (c.F0 c.x1 ++ [c.r])
  | 2 => up (up c.F0 c.x1 (c.F0 c.x1 ++ [c.r])) c.x2 (c.F0 c.x2 ++ [c.r])
  | _ => up (up (up c.F0 c.x1 (c.F0 c.x1 ++ [c.r])) c.x2 (c.F0 c.x2 ++ [c.r])) c.x3 (c.F0 c.x3 ++ [c.r])
structure Cx.Ok (c : Cx) (a0 : Act) : Prop where
  l1 : c.x1 < c.M
  l2 : c.x2 < c.M
  l3 : c.x3 < c.M
  n12 : c.x2 ≠ c.x1
  n13 : c.x3 ≠ c.x1
  n23 : c.x3 ≠ c.x2
  len : ∀ x, (c.F0 x).length ≤ 1000
  size : 107 < a0.tmps.size
  e88 : a0.eval (.tmp 88) = sv3 (c.H0 c.x1)
  e96 : a0.eval (.tmp 96) = sv3 (c.H0 c.x2)
  e104 : a0.eval (.tmp 104) = sv3 (c.H0 c.x3)
  e89 : a0.eval (.tmp 89) = .agg (rA c.r)
  e97 : a0.eval (.tmp 97) = .agg (rA c.r)
  e105 : a0.eval (.tmp 105) = .agg (rA c.r)
structure St (c : Cx) (a0 : Act) (l : Nat) (m1 m2 m3 : Bool) (v1 v2 v3 : SV) (b1 b2 b3 : Nat) (a : Act) (W : World) : Prop where
  agr : Agr a0 a
  bs : c.BS W (c.H l v1 v2 v3) (c.F l)
  p : Ap W c.B c.M (c.H l v1 v2 v3) (rA c.r) c.p
  m1 : m1 = true → a.tmps.getD 90 undef = .slice (some ⟨b1, 0, none⟩) 1 1 ∧ Ap W c.B c.M (c.H l v1 v2 v3) (rA c.r) b1
  m2 : m2 = true → a.tmps.getD 98 undef = .slice (some ⟨b2, 0, none⟩) 1 1 ∧ Ap W c.B c.M (c.H l v1 v2 v3) (rA c.r) b2
  m3 : m3 = true → a.tmps.getD 106 undef = .slice (some ⟨b3, 0, none⟩) 1 1 ∧ Ap W c.B c.M (c.H l v1 v2 v3) (rA c.r) b3
  t1 : 1 ≤ l → a.tmps.getD 91 undef = sv3 v1
  t2 : 2 ≤ l → a.tmps.getD 99 undef = sv3 v2
  t3 : 3 ≤ l → a.tmps.getD 107 undef = sv3 v3
theorem Agr.at {a0 a : Act} (h : Agr a0 a) (k : Nat) (hk : k ≠ 90 ∧ k ≠ 91 ∧ k ≠ 98 ∧ k ≠ 99 ∧ k ≠ 106 ∧ k ≠ 107) : a.eval (.tmp k) = a0.eval (.tmp k) := h.rest k hk.1 hk.2.1 hk.2.2.1 hk.2.2.2.1 hk.2.2.2.2.1 hk.2.2.2.2.2
section
variable {c : Cx} {a0 a : Act} {W : World} {l : Nat} {m1 m2 m3 : Bool} {v1 v2 v3 : SV} {b1 b2 b3 : Nat} (hc : c.Ok a0)
theorem below_new (W : World) (o : Obj) : Below W.heap.size W (W.alloc o) := (Below.refl _ _).alloc (Nat.le_refl _) _
include hc
theorem St.mk1 (h : St c a0 l false m2 m3 v1 v2 v3 b1 b2 b3 a W) : St c a0 l true m2 m3 v1 v2 v3 W.heap.size b2 b3 (a.put (some 90) (.slice (some ⟨W.heap.size, 0, none⟩) 1 1)) (W.alloc (.cells (rA c.r) 61)) :=
  ⟨h.agr.put 90 (by decide) _, h.bs.alloc _, h.p.later (below_new _ _), fun _ => ⟨put_same _ _ _ (by rw [h.agr.size]; have := hc.size; omega), Ap.new h.bs.bag h.bs.base⟩, fun e => ⟨by rw [put_ne _ _ _ _ (by decide)]; exact (h.m2 e).1, (h.m2 e).2.later (below_new _ _)⟩, fun e => ⟨by rw [put_ne _ _ _ _ (by decide)]; exact (h.m3 e).1, (h.m3 e).2.later (below_new _ _)⟩, fun e => by rw [put_ne _ _ _ _ (by decide)]; exact h.t1 e, fun e => by rw [put_ne _ _ _ _ (by decide)]; exact h.t2 e, fun e => by rw [put_ne _ _ _ _ (by decide)]; exact h.t3 e⟩
theorem St.mk2 (h : St c a0 l m1 false m3 v1 v2 v3 b1 b2 b3 a W) : St c a0 l m1 true m3 v1 v2 v3 b1 W.heap.size b3 (a.put (some 98) (.slice (some ⟨W.heap.size, 0, none⟩) 1 1)) (W.alloc (.cells (rA c.r) 61)) :=
  ⟨h.agr.put 98 (by decide) _, h.bs.alloc _, h.p.later (below_new _ _), fun e => ⟨by rw [put_ne _ _ _ _ (by decide)]; exact (h.m1 e).1, (h.m1 e).2.later (below_new _ _)⟩, fun _ => ⟨put_same _ _ _ (by rw [h.agr.size]; have := hc.size; omega), Ap.new h.bs.bag h.bs.base⟩, fun e => ⟨by rw [put_ne _ _ _ _ (by decide)]; exact (h.m3 e).1, (h.m3 e).2.later (below_new _ _)⟩, fun e => by rw [put_ne _ _ _ _ (by decide)]; exact h.t1 e, fun e => by rw [put_ne _ _ _ _ (by decide)]; exact h.t2 e, fun e => by rw [put_ne _ _ _ _ (by decide)]; exact h.t3 e⟩
theorem St.mk3 (h : St c a0 l m1 m2 false v1 v2 v3 b1 b2 b3 a W) : St c a0 l m1 m2 true v1 v2 v3 b1 b2 W.heap.size (a.put (some 106) (.slice (some ⟨W.heap.size, 0, none⟩) 1 1)) (W.alloc (.cells (rA c.r) 61)) :=
  ⟨h.agr.put 106 (by decide) _, h.bs.alloc _, h.p.later (below_new _ _), fun e => ⟨by rw [put_ne _ _ _ _ (by decide)]; exact (h.m1 e).1, (h.m1 e).2.later (below_new _ _)⟩, fun e => ⟨by rw [put_ne _ _ _ _ (by decide)]; exact (h.m2 e).1, (h.m2 e).2.later (below_new _ _)⟩, fun _ => ⟨put_same _ _ _ (by rw [h.agr.size]; have := hc.size; omega), Ap.new h.bs.bag h.bs.base⟩, fun e => by rw [put_ne _ _ _ _ (by decide)]; exact h.t1 e, fun e => by rw [put_ne _ _ _ _ (by decide)]; exact h.t2 e, fun e => by rw [put_ne _ _ _ _ (by decide)]; exact h.t3 e⟩
theorem St.ap1 {W' : World} {v : SV} (h : St c a0 0 m1 m2 m3 v1 v2 v3 b1 b2 b3 a W) (h1 : RO W' c.B (sv3 v) (c.F0 c.x1 ++ [c.r])) (h0 : Below c.B W W') (h2 : W.grownBy W' (sv3 (c.H 0 v1 v2 v3 c.x1)).ownBlock) (h3 : (sv3 v).ownBlock = (sv3 (c.H 0 v1 v2 v3 c.x1)).ownBlock ∨ (sv3 v).ownBlock = some W.heap.size) : St c a0 1 m1 m2 m3 v v2 v3 b1 b2 b3 (a.put (some 91) (sv3 v)) W' :=
  ⟨h.agr.put 91 (by decide) _, Go.Proofs.YtmapagbmihpbmaaGreatDoor.BS.app h.bs hc.l1 h1 h0 h2 h3, h.p.app hc.l1 h2 h3, fun e => ⟨by rw [put_ne _ _ _ _ (by decide)]; exact (h.m1 e).1, (h.m1 e).2.app hc.l1 h2 h3⟩, fun e => ⟨by rw [put_ne _ _ _ _ (by decide)]; exact (h.m2 e).1, (h.m2 e).2.app hc.l1 h2 h3⟩, fun e => ⟨by rw [put_ne _ _ _ _ (by decide)]; exact (h.m3 e).1, (h.m3 e).2.app hc.l1 h2 h3⟩, fun _ => put_same _ _ _ (by rw [h.agr.size]; have := hc.size; omega), fun e => absurd e (by decide), fun e => absurd e (by decide)⟩
theorem St.ap2 {W' : World} {v : SV} (h : St c a0 1 m1 m2 m3 v1 v2 v3 b1 b2 b3 a W) (h1 : RO W' c.B (sv3 v) (c.F0 c.x2 ++ [c.r])) (h0 : Below c.B W W') (h2 : W.grownBy W' (sv3 (c.H 1 v1 v2 v3 c.x2)).ownBlock) (h3 : (sv3 v).ownBlock = (sv3 (c.H 1 v1 v2 v3 c.x2)).ownBlock ∨ (sv3 v).ownBlock = some W.heap.size) : St c a0 2 m1 m2 m3 v1 v v3 b1 b2 b3 (a.put (some 99) (sv3 v)) W' :=
  ⟨h.agr.put 99 (by decide) _, Go.Proofs.YtmapagbmihpbmaaGreatDoor.BS.app h.bs hc.l2 h1 h0 h2 h3, h.p.app hc.l2 h2 h3, fun e => ⟨by rw [put_ne _ _ _ _ (by decide)]; exact (h.m1 e).1, (h.m1 e).2.app hc.l2 h2 h3⟩, fun e => ⟨by rw [put_ne _ _ _ _ (by decide)]; exact (h.m2 e).1, (h.m2 e).2.app hc.l2 h2 h3⟩, fun e => ⟨by rw [put_ne _ _ _ _ (by decide)]; exact (h.m3 e).1, (h.m3 e).2.app hc.l2 h2 h3⟩, fun _ => by rw [put_ne _ _ _ _ (by decide)]; exact h.t1 (by decide), fun _ => put_same _ _ _ (by rw [h.agr.size]; have := hc.size; omega), fun e => absurd e (by decide)⟩
theorem St.ap3 {W' : World} {v : SV} (h : St c a0 2 m1 m2 m3 v1 v2 v3 b1 b2 b3 a W) (h1 : RO W' c.B (sv3 v) (c.F0 c.x3 ++ [c.r])) (h0 : Below c.B W W') (h2 : W.grownBy W' (sv3 (c.H 2 v1 v2 v3 c.x3)).ownBlock) (h3 : (sv3 v).ownBlock = (sv3 (c.H 2 v1 v2 v3 c.x3)).ownBlock ∨ (sv3 v).ownBlock = some W.heap.size) : St c a0 3 m1 m2 m3 v1 v2 v b1 b2 b3 (a.put (some 107) (sv3 v)) W' :=
  ⟨h.agr.put 107 (by decide) _, Go.Proofs.YtmapagbmihpbmaaGreatDoor.BS.app h.bs hc.l3 h1 h0 h2 h3, h.p.app hc.l3 h2 h3, fun e => ⟨by rw [put_ne _ _ _ _ (by decide)]; exact (h.m1 e).1, (h.m1 e).2.app hc.l3 h2 h3⟩, fun e => ⟨by rw [put_ne _ _ _ _ (by decide)]; exact (h.m2 e).1, (h.m2 e).2.app hc.l3 h2 h3⟩, fun e => ⟨by rw [put_ne _ _ _ _ (by decide)]; exact (h.m3 e).1, (h.m3 e).2.app hc.l3 h2 h3⟩, fun _ => by rw [put_ne _ _ _ _ (by decide)]; exact h.t1 (by decide), fun _ => by rw [put_ne _ _ _ _ (by decide)]; exact h.t2 (by decide), fun _ => put_same _ _ _ (by rw [h.agr.size]; have := hc.size; omega)⟩
end
/-- Which numbers have come up. -/
def Lst (l : Nat) (m1 m2 m3 : Bool) : Array Bool := #[true, true, true, true, true, true, true, true, true, true, true, true, true, m1, decide (1 ≤ l), true, true, true, true, true, true, m2, decide (2 ≤ l), true, true, true, true, true, true, m3, decide (3 ≤ l), false, false, false, false, false, false]
structure IsB (ops : Array Oper) (i src dst : Nat) : Prop where
  ex : ∃ o, ops[i]? = some o ∧ o.op = .buildSlice 54 1 #[(0, .tmp src)] ∧ o.dst = some dst ∧ o.guard = none
structure IsA (ops : Array Oper) (i hdr one dst : Nat) : Prop where
  ex : ∃ o, ops[i]? = some o ∧ o.op = .call { callee := .builtin .append, args := #[.tmp hdr, .tmp one], argTypes := #[54, 54] } ∧ o.dst = some dst ∧ o.guard = none
def rdyOk (ops : Array Oper) : Bool := (Region.ready .any ops (Lst 2 true true true) == [30]) && (Region.ready .any ops (Lst 1 true true true) == [22]) && (Region.ready .any ops (Lst 2 true true false) == [29]) && (Region.ready .any ops (Lst 0 true true true) == [14]) && (Region.ready .any ops (Lst 1 true true false) == [22, 29]) && (Region.ready .any ops (Lst 1 true false true) == [21]) && (Region.ready .any ops (Lst 0 true true false) == [14, 29]) && (Region.ready .any ops (Lst 0 true false true) == [14, 21]) && (Region.ready .any ops (Lst 0 false true true) == [13]) && (Region.ready .any ops (Lst 1 true false false) == [21, 29]) && (Region.ready .any ops (Lst 0 true false false) == [14, 21, 29]) && (Region.ready .any ops (Lst 0 false true false) == [13, 29]) && (Region.ready .any ops (Lst 0 false false true) == [13, 21]) && (Region.ready .any ops (Lst 0 false false false) == [13, 21, 29])
set_option maxHeartbeats 4000000 in
theorem app3 {ops : Array Oper} {Q : Exit → Act → World → Prop} {S1 S2 : World → Prop} {c : Cx} {a0 : Act} {W : World} (hc : c.Ok a0) (hrd : rdyOk ops = true)
    (i13 : IsB ops 13 89 90) (i21 : IsB ops 21 97 98) (i29 : IsB ops 29 105 106) (i14 : IsA ops 14 88 90 91) (i22 : IsA ops 22 96 98 99) (i30 : IsA ops 30 104 106 107)
    (hS : ∀ W H F, c.BS W H F → Ap W c.B c.M H (rA c.r) c.p → S1 W ∧ S2 W)
    (hst : c.BS W c.H0 c.F0) (hp : Ap W c.B c.M c.H0 (rA c.r) c.p)
    (hfin : ∀ W' v1 v2 v3 b1 b2 b3 a, St c a0 3 true true true v1 v2 v3 b1 b2 b3 a W' → wpAnyG Tryz.prog .any ops Q S1 S2 32 6 (Lst 3 true true true) a W') :
    wpAnyG Tryz.prog .any ops Q S1 S2 32 12 (Lst 0 false false false) a0 W := by
  unfold rdyOk at hrd
  simp only [Bool.and_eq_true, beq_iff_eq] at hrd
  obtain ⟨⟨⟨⟨⟨⟨⟨⟨⟨⟨⟨⟨⟨rJ2ttt, rJ1ttt⟩, rJ2ttf⟩, rJ0ttt⟩, rJ1ttf⟩, rJ1tft⟩, rJ0ttf⟩, rJ0tft⟩, rJ0ftt⟩, rJ1tff⟩, rJ0tff⟩, rJ0ftf⟩, rJ0fft⟩, rJ0fff⟩ := hrd
  obtain ⟨o13, p13, q13, d13, g13⟩ := i13.ex
  obtain ⟨o21, p21, q21, d21, g21⟩ := i21.ex
  obtain ⟨o29, p29, q29, d29, g29⟩ := i29.ex
  obtain ⟨o14, p14, q14, d14, g14⟩ := i14.ex
  obtain ⟨o22, p22, q22, d22, g22⟩ := i22.ex
  obtain ⟨o30, p30, q30, d30, g30⟩ := i30.ex
  have J3ttt := hfin
  have J2ttt : ∀ W v1 v2 v3 b1 b2 b3 a, St c a0 2 true true true v1 v2 v3 b1 b2 b3 a W → wpAnyG Tryz.prog .any ops Q S1 S2 32 7 (Lst 2 true true true) a W := fun W v1 v2 v3 b1 b2 b3 a h => by
    refine wpAnyG_ready rJ2ttt (by simp) ?_
    refine AllG.cons p30 (fun K hK => ?_) ?_
    · have hH : c.H 2 v1 v2 v3 c.x3 = c.H0 c.x3 := ((up_ne _ _ _ _ hc.n23).trans (up_ne _ _ _ _ hc.n13))
      have hF : c.F 2 c.x3 = c.F0 c.x3 := ((up_ne _ _ _ _ hc.n23).trans (up_ne _ _ _ _ hc.n13))
      have hr := h.bs.bag.row c.x3 hc.l3
      rw [hF] at hr
      have hl := hc.len c.x3
      refine step_row2 54 61 12 136 rmC _ Tryz.underlying54 rec_info rfl (by decide) rm_one g30 (.tmp 104) (.tmp 106) q30 c.B (sv3 (c.H 2 v1 v2 v3 c.x3)) (c.F0 c.x3) (by rw [h.agr.at 104 (by decide), hc.e104, hH]) hr c.r b3 (rA c.r) rfl (h.m3 rfl).2.blk (h.m3 rfl).1 (by omega) (by unfold maxLen; omega) h.bs.base ?_
      intro g cap w' ho hb hg hx
      rw [d30]
      have h2 := St.ap3 (v := (some ⟨g, 0, none⟩, (c.F0 c.x3).length + 1, cap)) hc h ho hb hg (hx.imp (fun e => e.symm) (fun e => by rw [← e]; rfl))
      have h3 := hS _ _ _ h2.bs h2.p
      exact hK.out _ _ ⟨h3.1, .inr h3.2⟩ (fun _ => J3ttt _ _ _ _ _ _ _ _ h2)
    exact AllG.nil
  have J1ttt : ∀ W v1 v2 v3 b1 b2 b3 a, St c a0 1 true true true v1 v2 v3 b1 b2 b3 a W → wpAnyG Tryz.prog .any ops Q S1 S2 32 8 (Lst 1 true true true) a W := fun W v1 v2 v3 b1 b2 b3 a h => by
    refine wpAnyG_ready rJ1ttt (by simp) ?_
    refine AllG.cons p22 (fun K hK => ?_) ?_
    · have hH : c.H 1 v1 v2 v3 c.x2 = c.H0 c.x2 := (up_ne _ _ _ _ hc.n12)
      have hF : c.F 1 c.x2 = c.F0 c.x2 := (up_ne _ _ _ _ hc.n12)
      have hr := h.bs.bag.row c.x2 hc.l2
      rw [hF] at hr
      have hl := hc.len c.x2
      refine step_row2 54 61 12 136 rmC _ Tryz.underlying54 rec_info rfl (by decide) rm_one g22 (.tmp 96) (.tmp 98) q22 c.B (sv3 (c.H 1 v1 v2 v3 c.x2)) (c.F0 c.x2) (by rw [h.agr.at 96 (by decide), hc.e96, hH]) hr c.r b2 (rA c.r) rfl (h.m2 rfl).2.blk (h.m2 rfl).1 (by omega) (by unfold maxLen; omega) h.bs.base ?_
      intro g cap w' ho hb hg hx
      rw [d22]
      have h2 := St.ap2 (v := (some ⟨g, 0, none⟩, (c.F0 c.x2).length + 1, cap)) hc h ho hb hg (hx.imp (fun e => e.symm) (fun e => by rw [← e]; rfl))
      have h3 := hS _ _ _ h2.bs h2.p
      exact hK.out _ _ ⟨h3.1, .inr h3.2⟩ (fun _ => J2ttt _ _ _ _ _ _ _ _ h2)
    exact AllG.nil
  have J2ttf : ∀ W v1 v2 v3 b1 b2 b3 a, St c a0 2 true true false v1 v2 v3 b1 b2 b3 a W → wpAnyG Tryz.prog .any ops Q S1 S2 32 8 (Lst 2 true true false) a W := fun W v1 v2 v3 b1 b2 b3 a h => by
    refine wpAnyG_ready rJ2ttf (by simp) ?_
    refine AllG.cons p29 (fun K hK => ?_) ?_
    · refine step_b g29 q29 c.r ((h.agr.at 105 (by decide)).trans hc.e105) ?_
      rw [d29]
      have h2 := St.mk3 hc h
      have h3 := hS _ _ _ h2.bs h2.p
      exact hK.out _ _ ⟨h3.1, .inr h3.2⟩ (fun _ => J2ttt _ _ _ _ _ _ _ _ h2)
    exact AllG.nil
  have J0ttt : ∀ W v1 v2 v3 b1 b2 b3 a, St c a0 0 true true true v1 v2 v3 b1 b2 b3 a W → wpAnyG Tryz.prog .any ops Q S1 S2 32 9 (Lst 0 true true true) a W := fun W v1 v2 v3 b1 b2 b3 a h => by
    refine wpAnyG_ready rJ0ttt (by simp) ?_
    refine AllG.cons p14 (fun K hK => ?_) ?_
    · have hH : c.H 0 v1 v2 v3 c.x1 = c.H0 c.x1 := rfl
      have hF : c.F 0 c.x1 = c.F0 c.x1 := rfl
      have hr := h.bs.bag.row c.x1 hc.l1
      rw [hF] at hr
      have hl := hc.len c.x1
      refine step_row2 54 61 12 136 rmC _ Tryz.underlying54 rec_info rfl (by decide) rm_one g14 (.tmp 88) (.tmp 90) q14 c.B (sv3 (c.H 0 v1 v2 v3 c.x1)) (c.F0 c.x1) (by rw [h.agr.at 88 (by decide), hc.e88, hH]) hr c.r b1 (rA c.r) rfl (h.m1 rfl).2.blk (h.m1 rfl).1 (by omega) (by unfold maxLen; omega) h.bs.base ?_
      intro g cap w' ho hb hg hx
      rw [d14]
      have h2 := St.ap1 (v := (some ⟨g, 0, none⟩, (c.F0 c.x1).length + 1, cap)) hc h ho hb hg (hx.imp (fun e => e.symm) (fun e => by rw [← e]; rfl))
      have h3 := hS _ _ _ h2.bs h2.p
      exact hK.out _ _ ⟨h3.1, .inr h3.2⟩ (fun _ => J1ttt _ _ _ _ _ _ _ _ h2)
    exact AllG.nil
  have J1ttf : ∀ W v1 v2 v3 b1 b2 b3 a, St c a0 1 true true false v1 v2 v3 b1 b2 b3 a W → wpAnyG Tryz.prog .any ops Q S1 S2 32 9 (Lst 1 true true false) a W := fun W v1 v2 v3 b1 b2 b3 a h => by
    refine wpAnyG_ready rJ1ttf (by simp) ?_
    refine AllG.cons p22 (fun K hK => ?_) ?_
    · have hH : c.H 1 v1 v2 v3 c.x2 = c.H0 c.x2 := (up_ne _ _ _ _ hc.n12)
      have hF : c.F 1 c.x2 = c.F0 c.x2 := (up_ne _ _ _ _ hc.n12)
      have hr := h.bs.bag.row c.x2 hc.l2
      rw [hF] at hr
      have hl := hc.len c.x2
      refine step_row2 54 61 12 136 rmC _ Tryz.underlying54 rec_info rfl (by decide) rm_one g22 (.tmp 96) (.tmp 98) q22 c.B (sv3 (c.H 1 v1 v2 v3 c.x2)) (c.F0 c.x2) (by rw [h.agr.at 96 (by decide), hc.e96, hH]) hr c.r b2 (rA c.r) rfl (h.m2 rfl).2.blk (h.m2 rfl).1 (by omega) (by unfold maxLen; omega) h.bs.base ?_
      intro g cap w' ho hb hg hx
      rw [d22]
      have h2 := St.ap2 (v := (some ⟨g, 0, none⟩, (c.F0 c.x2).length + 1, cap)) hc h ho hb hg (hx.imp (fun e => e.symm) (fun e => by rw [← e]; rfl))
      have h3 := hS _ _ _ h2.bs h2.p
      exact hK.out _ _ ⟨h3.1, .inr h3.2⟩ (fun _ => J2ttf _ _ _ _ _ _ _ _ h2)
    refine AllG.cons p29 (fun K hK => ?_) ?_
    · refine step_b g29 q29 c.r ((h.agr.at 105 (by decide)).trans hc.e105) ?_
      rw [d29]
      have h2 := St.mk3 hc h
      have h3 := hS _ _ _ h2.bs h2.p
      exact hK.out _ _ ⟨h3.1, .inr h3.2⟩ (fun _ => J1ttt _ _ _ _ _ _ _ _ h2)
    exact AllG.nil
  have J1tft : ∀ W v1 v2 v3 b1 b2 b3 a, St c a0 1 true false true v1 v2 v3 b1 b2 b3 a W → wpAnyG Tryz.prog .any ops Q S1 S2 32 9 (Lst 1 true false true) a W := fun W v1 v2 v3 b1 b2 b3 a h => by
    refine wpAnyG_ready rJ1tft (by simp) ?_
    refine AllG.cons p21 (fun K hK => ?_) ?_
    · refine step_b g21 q21 c.r ((h.agr.at 97 (by decide)).trans hc.e97) ?_
      rw [d21]
      have h2 := St.mk2 hc h
      have h3 := hS _ _ _ h2.bs h2.p
      exact hK.out _ _ ⟨h3.1, .inr h3.2⟩ (fun _ => J1ttt _ _ _ _ _ _ _ _ h2)
    exact AllG.nil
  have J0ttf : ∀ W v1 v2 v3 b1 b2 b3 a, St c a0 0 true true false v1 v2 v3 b1 b2 b3 a W → wpAnyG Tryz.prog .any ops Q S1 S2 32 10 (Lst 0 true true false) a W := fun W v1 v2 v3 b1 b2 b3 a h => by
    refine wpAnyG_ready rJ0ttf (by simp) ?_
    refine AllG.cons p14 (fun K hK => ?_) ?_
    · have hH : c.H 0 v1 v2 v3 c.x1 = c.H0 c.x1 := rfl
      have hF : c.F 0 c.x1 = c.F0 c.x1 := rfl
      have hr := h.bs.bag.row c.x1 hc.l1
      rw [hF] at hr
      have hl := hc.len c.x1
      refine step_row2 54 61 12 136 rmC _ Tryz.underlying54 rec_info rfl (by decide) rm_one g14 (.tmp 88) (.tmp 90) q14 c.B (sv3 (c.H 0 v1 v2 v3 c.x1)) (c.F0 c.x1) (by rw [h.agr.at 88 (by decide), hc.e88, hH]) hr c.r b1 (rA c.r) rfl (h.m1 rfl).2.blk (h.m1 rfl).1 (by omega) (by unfold maxLen; omega) h.bs.base ?_
      intro g cap w' ho hb hg hx
      rw [d14]
      have h2 := St.ap1 (v := (some ⟨g, 0, none⟩, (c.F0 c.x1).length + 1, cap)) hc h ho hb hg (hx.imp (fun e => e.symm) (fun e => by rw [← e]; rfl))
      have h3 := hS _ _ _ h2.bs h2.p
      exact hK.out _ _ ⟨h3.1, .inr h3.2⟩ (fun _ => J1ttf _ _ _ _ _ _ _ _ h2)
    refine AllG.cons p29 (fun K hK => ?_) ?_
    · refine step_b g29 q29 c.r ((h.agr.at 105 (by decide)).trans hc.e105) ?_
      rw [d29]
      have h2 := St.mk3 hc h
      have h3 := hS _ _ _ h2.bs h2.p
      exact hK.out _ _ ⟨h3.1, .inr h3.2⟩ (fun _ => J0ttt _ _ _ _ _ _ _ _ h2)
    exact AllG.nil
  have J0tft : ∀ W v1 v2 v3 b1 b2 b3 a, St c a0 0 true false true v1 v2 v3 b1 b2 b3 a W → wpAnyG Tryz.prog .any ops Q S1 S2 32 10 (Lst 0 true false true) a W := fun W v1 v2 v3 b1 b2 b3 a h => by
    refine wpAnyG_ready rJ0tft (by simp) ?_
    refine AllG.cons p14 (fun K hK => ?_) ?_
    · have hH : c.H 0 v1 v2 v3 c.x1 = c.H0 c.x1 := rfl
      have hF : c.F 0 c.x1 = c.F0 c.x1 := rfl
      have hr := h.bs.bag.row c.x1 hc.l1
      rw [hF] at hr
      have hl := hc.len c.x1
      refine step_row2 54 61 12 136 rmC _ Tryz.underlying54 rec_info rfl (by decide) rm_one g14 (.tmp 88) (.tmp 90) q14 c.B (sv3 (c.H 0 v1 v2 v3 c.x1)) (c.F0 c.x1) (by rw [h.agr.at 88 (by decide), hc.e88, hH]) hr c.r b1 (rA c.r) rfl (h.m1 rfl).2.blk (h.m1 rfl).1 (by omega) (by unfold maxLen; omega) h.bs.base ?_
      intro g cap w' ho hb hg hx
      rw [d14]
      have h2 := St.ap1 (v := (some ⟨g, 0, none⟩, (c.F0 c.x1).length + 1, cap)) hc h ho hb hg (hx.imp (fun e => e.symm) (fun e => by rw [← e]; rfl))
      have h3 := hS _ _ _ h2.bs h2.p
      exact hK.out _ _ ⟨h3.1, .inr h3.2⟩ (fun _ => J1tft _ _ _ _ _ _ _ _ h2)
    refine AllG.cons p21 (fun K hK => ?_) ?_
    · refine step_b g21 q21 c.r ((h.agr.at 97 (by decide)).trans hc.e97) ?_
      rw [d21]
      have h2 := St.mk2 hc h
      have h3 := hS _ _ _ h2.bs h2.p
      exact hK.out _ _ ⟨h3.1, .inr h3.2⟩ (fun _ => J0ttt _ _ _ _ _ _ _ _ h2)
    exact AllG.nil
  have J0ftt : ∀ W v1 v2 v3 b1 b2 b3 a, St c a0 0 false true true v1 v2 v3 b1 b2 b3 a W → wpAnyG Tryz.prog .any ops Q S1 S2 32 10 (Lst 0 false true true) a W := fun W v1 v2 v3 b1 b2 b3 a h => by
    refine wpAnyG_ready rJ0ftt (by simp) ?_
    refine AllG.cons p13 (fun K hK => ?_) ?_
    · refine step_b g13 q13 c.r ((h.agr.at 89 (by decide)).trans hc.e89) ?_
      rw [d13]
      have h2 := St.mk1 hc h
      have h3 := hS _ _ _ h2.bs h2.p
      exact hK.out _ _ ⟨h3.1, .inr h3.2⟩ (fun _ => J0ttt _ _ _ _ _ _ _ _ h2)
    exact AllG.nil
  have J1tff : ∀ W v1 v2 v3 b1 b2 b3 a, St c a0 1 true false false v1 v2 v3 b1 b2 b3 a W → wpAnyG Tryz.prog .any ops Q S1 S2 32 10 (Lst 1 true false false) a W := fun W v1 v2 v3 b1 b2 b3 a h => by
    refine wpAnyG_ready rJ1tff (by simp) ?_
    refine AllG.cons p21 (fun K hK => ?_) ?_
    · refine step_b g21 q21 c.r ((h.agr.at 97 (by decide)).trans hc.e97) ?_
      rw [d21]
      have h2 := St.mk2 hc h
      have h3 := hS _ _ _ h2.bs h2.p
      exact hK.out _ _ ⟨h3.1, .inr h3.2⟩ (fun _ => J1ttf _ _ _ _ _ _ _ _ h2)
    refine AllG.cons p29 (fun K hK => ?_) ?_
    · refine step_b g29 q29 c.r ((h.agr.at 105 (by decide)).trans hc.e105) ?_
      rw [d29]
      have h2 := St.mk3 hc h
      have h3 := hS _ _ _ h2.bs h2.p
      exact hK.out _ _ ⟨h3.1, .inr h3.2⟩ (fun _ => J1tft _ _ _ _ _ _ _ _ h2)
    exact AllG.nil
  have J0tff : ∀ W v1 v2 v3 b1 b2 b3 a, St c a0 0 true false false v1 v2 v3 b1 b2 b3 a W → wpAnyG Tryz.prog .any ops Q S1 S2 32 11 (Lst 0 true false false) a W := fun W v1 v2 v3 b1 b2 b3 a h => by
    refine wpAnyG_ready rJ0tff (by simp) ?_
    refine AllG.cons p14 (fun K hK => ?_) ?_
    · have hH : c.H 0 v1 v2 v3 c.x1 = c.H0 c.x1 := rfl
      have hF : c.F 0 c.x1 = c.F0 c.x1 := rfl
      have hr := h.bs.bag.row c.x1 hc.l1
      rw [hF] at hr
      have hl := hc.len c.x1
      refine step_row2 54 61 12 136 rmC _ Tryz.underlying54 rec_info rfl (by decide) rm_one g14 (.tmp 88) (.tmp 90) q14 c.B (sv3 (c.H 0 v1 v2 v3 c.x1)) (c.F0 c.x1) (by rw [h.agr.at 88 (by decide), hc.e88, hH]) hr c.r b1 (rA c.r) rfl (h.m1 rfl).2.blk (h.m1 rfl).1 (by omega) (by unfold maxLen; omega) h.bs.base ?_
      intro g cap w' ho hb hg hx
      rw [d14]
      have h2 := St.ap1 (v := (some ⟨g, 0, none⟩, (c.F0 c.x1).length + 1, cap)) hc h ho hb hg (hx.imp (fun e => e.symm) (fun e => by rw [← e]; rfl))
      have h3 := hS _ _ _ h2.bs h2.p
      exact hK.out _ _ ⟨h3.1, .inr h3.2⟩ (fun _ => J1tff _ _ _ _ _ _ _ _ h2)
    refine AllG.cons p21 (fun K hK => ?_) ?_
    · refine step_b g21 q21 c.r ((h.agr.at 97 (by decide)).trans hc.e97) ?_
      rw [d21]
      have h2 := St.mk2 hc h
      have h3 := hS _ _ _ h2.bs h2.p
      exact hK.out _ _ ⟨h3.1, .inr h3.2⟩ (fun _ => J0ttf _ _ _ _ _ _ _ _ h2)
    refine AllG.cons p29 (fun K hK => ?_) ?_
    · refine step_b g29 q29 c.r ((h.agr.at 105 (by decide)).trans hc.e105) ?_
      rw [d29]
      have h2 := St.mk3 hc h
      have h3 := hS _ _ _ h2.bs h2.p
      exact hK.out _ _ ⟨h3.1, .inr h3.2⟩ (fun _ => J0tft _ _ _ _ _ _ _ _ h2)
    exact AllG.nil
  have J0ftf : ∀ W v1 v2 v3 b1 b2 b3 a, St c a0 0 false true false v1 v2 v3 b1 b2 b3 a W → wpAnyG Tryz.prog .any ops Q S1 S2 32 11 (Lst 0 false true false) a W := fun W v1 v2 v3 b1 b2 b3 a h => by
    refine wpAnyG_ready rJ0ftf (by simp) ?_
    refine AllG.cons p13 (fun K hK => ?_) ?_
    · refine step_b g13 q13 c.r ((h.agr.at 89 (by decide)).trans hc.e89) ?_
      rw [d13]
      have h2 := St.mk1 hc h
      have h3 := hS _ _ _ h2.bs h2.p
      exact hK.out _ _ ⟨h3.1, .inr h3.2⟩ (fun _ => J0ttf _ _ _ _ _ _ _ _ h2)
    refine AllG.cons p29 (fun K hK => ?_) ?_
    · refine step_b g29 q29 c.r ((h.agr.at 105 (by decide)).trans hc.e105) ?_
      rw [d29]
      have h2 := St.mk3 hc h
      have h3 := hS _ _ _ h2.bs h2.p
      exact hK.out _ _ ⟨h3.1, .inr h3.2⟩ (fun _ => J0ftt _ _ _ _ _ _ _ _ h2)
    exact AllG.nil
  have J0fft : ∀ W v1 v2 v3 b1 b2 b3 a, St c a0 0 false false true v1 v2 v3 b1 b2 b3 a W → wpAnyG Tryz.prog .any ops Q S1 S2 32 11 (Lst 0 false false true) a W := fun W v1 v2 v3 b1 b2 b3 a h => by
    refine wpAnyG_ready rJ0fft (by simp) ?_
    refine AllG.cons p13 (fun K hK => ?_) ?_
    · refine step_b g13 q13 c.r ((h.agr.at 89 (by decide)).trans hc.e89) ?_
      rw [d13]
      have h2 := St.mk1 hc h
      have h3 := hS _ _ _ h2.bs h2.p
      exact hK.out _ _ ⟨h3.1, .inr h3.2⟩ (fun _ => J0tft _ _ _ _ _ _ _ _ h2)
    refine AllG.cons p21 (fun K hK => ?_) ?_
    · refine step_b g21 q21 c.r ((h.agr.at 97 (by decide)).trans hc.e97) ?_
      rw [d21]
      have h2 := St.mk2 hc h
      have h3 := hS _ _ _ h2.bs h2.p
      exact hK.out _ _ ⟨h3.1, .inr h3.2⟩ (fun _ => J0ftt _ _ _ _ _ _ _ _ h2)
    exact AllG.nil
  have J0fff : ∀ W v1 v2 v3 b1 b2 b3 a, St c a0 0 false false false v1 v2 v3 b1 b2 b3 a W → wpAnyG Tryz.prog .any ops Q S1 S2 32 12 (Lst 0 false false false) a W := fun W v1 v2 v3 b1 b2 b3 a h => by
    refine wpAnyG_ready rJ0fff (by simp) ?_
    refine AllG.cons p13 (fun K hK => ?_) ?_
    · refine step_b g13 q13 c.r ((h.agr.at 89 (by decide)).trans hc.e89) ?_
      rw [d13]
      have h2 := St.mk1 hc h
      have h3 := hS _ _ _ h2.bs h2.p
      exact hK.out _ _ ⟨h3.1, .inr h3.2⟩ (fun _ => J0tff _ _ _ _ _ _ _ _ h2)
    refine AllG.cons p21 (fun K hK => ?_) ?_
    · refine step_b g21 q21 c.r ((h.agr.at 97 (by decide)).trans hc.e97) ?_
      rw [d21]
      have h2 := St.mk2 hc h
      have h3 := hS _ _ _ h2.bs h2.p
      exact hK.out _ _ ⟨h3.1, .inr h3.2⟩ (fun _ => J0ftf _ _ _ _ _ _ _ _ h2)
    refine AllG.cons p29 (fun K hK => ?_) ?_
    · refine step_b g29 q29 c.r ((h.agr.at 105 (by decide)).trans hc.e105) ?_
      rw [d29]
      have h2 := St.mk3 hc h
      have h3 := hS _ _ _ h2.bs h2.p
      exact hK.out _ _ ⟨h3.1, .inr h3.2⟩ (fun _ => J0fft _ _ _ _ _ _ _ _ h2)
    exact AllG.nil
  exact J0fff _ default default default 0 0 0 _ ⟨Agr.refl _, hst, hp, fun e => (by cases e), fun e => (by cases e), fun e => (by cases e), fun e => absurd e (by decide), fun e => absurd e (by decide), fun e => absurd e (by decide)⟩
end Go.Proofs.YtmapagbmihpbmaaGreatDoor

namespace Go.Proofs.YtmapagbmihpbmaaGreatDoor
open Go.RowKit

/-- All groups under one numbering: the cells, the rows, the columns. -/
def FF (n m : Nat) (l : List Rm) (x : Nat) : List Rm := if x < n * m then grM l (x / m) (x % m) else if x < n * m + n then Pv.gr1 Rm.row l (x - n * m) else Pv.gr1 Rm.col l (x - n * m - n)
theorem ff_nil (n m x : Nat) : FF n m [] x = [] := by unfold FF grM Pv.gr Pv.gr1; split <;> (try split) <;> rfl
theorem ff_cell (n m : Nat) (l : List Rm) (x : Nat) (h : x < n * m) : FF n m l x = grM l (x / m) (x % m) := if_pos h
theorem ff_row (n m : Nat) (l : List Rm) (i : Nat) (h : i < n) : FF n m l (n * m + i) = Pv.gr1 Rm.row l i := by
  unfold FF
  rw [if_neg (by omega), if_pos (by omega), Nat.add_sub_cancel_left]
theorem ff_col (n m : Nat) (l : List Rm) (k : Nat) : FF n m l (n * m + n + k) = Pv.gr1 Rm.col l k := by
  unfold FF
  rw [if_neg (by omega), if_neg (by omega)]
  congr 1
  omega
theorem ff_len (n m : Nat) (l : List Rm) (x : Nat) : (FF n m l x).length ≤ l.length := by
  unfold FF grM Pv.gr Pv.gr1
  split
  · exact List.length_filter_le _ _
  · split
    · exact List.length_filter_le _ _
    · exact List.length_filter_le _ _
theorem ff_step (n m : Nat) (l : List Rm) (r : Rm) (hr : r.row < n) (hc : r.col < m) (x : Nat) (hx : x < n * m + n + m) :
    FF n m (l ++ [r]) x = up (up (up (FF n m l) (r.row * m + r.col) (FF n m l (r.row * m + r.col) ++ [r])) (n * m + r.row) (FF n m l (n * m + r.row) ++ [r])) (n * m + n + r.col) (FF n m l (n * m + n + r.col) ++ [r]) x := by
  have h1 : r.row * m + r.col < n * m := by
    have := Nat.mul_le_mul_right m (show r.row + 1 ≤ n from hr)
    rw [Nat.add_mul] at this
    omega
  have hd : (r.row * m + r.col) / m = r.row := by
    rw [Nat.mul_comm, Nat.mul_add_div (by omega), Nat.div_eq_of_lt hc, Nat.add_zero]
  have hm : (r.row * m + r.col) % m = r.col := by
    rw [Nat.mul_comm, Nat.mul_add_mod, Nat.mod_eq_of_lt hc]
  unfold up
  by_cases e3 : x = n * m + n + r.col
  · subst e3
    rw [if_pos rfl, ff_col, ff_col]
    unfold Pv.gr1
    simp
  rw [if_neg e3]
  by_cases e2 : x = n * m + r.row
  · subst e2
    rw [if_pos rfl, ff_row _ _ _ _ hr, ff_row _ _ _ _ hr]
    unfold Pv.gr1
    simp
  rw [if_neg e2]
  by_cases e1 : x = r.row * m + r.col
  · subst e1
    rw [if_pos rfl, ff_cell _ _ _ _ h1, ff_cell _ _ _ _ h1, hd, hm]
    unfold grM Pv.gr
    simp
  rw [if_neg e1]
  unfold FF
  split
  · unfold grM Pv.gr
    rw [List.filter_append]
    have : (r.row == x / m && r.col == x % m) = false := by
      rw [Bool.and_eq_false_iff]
      by_cases h : r.row = x / m
      · refine .inr ?_
        rw [beq_eq_false_iff_ne]
        intro h2
        apply e1
        rw [h, h2, Nat.mul_comm]
        exact (Nat.div_add_mod x m).symm
      · exact .inl (by simpa using h)
    simp [this]
  · split
    · unfold Pv.gr1
      have : (r.row == x - n * m) = false := by
        rw [beq_eq_false_iff_ne]
        omega
      simp [List.filter_append, this]
    · unfold Pv.gr1
      have : (r.col == x - n * m - n) = false := by
        rw [beq_eq_false_iff_ne]
        omega
      simp [List.filter_append, this]
theorem Bg.congr {W : World} {B M : Nat} {H H' : Nat → SV} {F F' : Nat → List Rm} (h : Bg W B M H F) (e1 : ∀ x, x < M → H x = H' x) (e2 : ∀ x, x < M → F x = F' x) : Bg W B M H' F' :=
  ⟨fun x hx => by rw [← e1 x hx, ← e2 x hx]; exact h.row x hx, fun x y hx hy hne k hk => by
    rw [← e1 x hx] at hk
    rw [← e1 y hy]
    exact h.sep x y hx hy hne k hk⟩
section
variable {ops : Array Oper} {o : Oper} {a : Act} {K : Act → World → Prop} {Q : Exit → Act → World → Prop} {X : Prop}
/-- make of a row of headers, at a step of a region that draws. -/
theorem step_mk {W : World} (hgd : o.guard = none) (x y : Operand) (ho : o.op = .makeSlice 59 x y) (B N : Nat) (hx : a.eval x = .int .i64 (N : Int)) (hy : a.eval y = .int .i64 (N : Int)) (hn : N ≤ 1000000) (hB : B ≤ W.heap.size)
    (h : ∀ W', HR W' B W.heap.size N (fun _ => (none, 0, 0)) → Below W.heap.size W W' → W.heap.size < W'.heap.size → K (a.put o.dst (.slice (some ⟨W.heap.size, 0, none⟩) N N)) W') :
    if Region.wanted o (yielded ops a.tmps) = true then Oper.wp Tryz.prog o a W K Q else X := by
  have hw : Region.wanted o (yielded ops a.tmps) = true := by simp [Region.wanted, hgd]
  rw [if_pos hw]
  obtain ⟨i0, hi, hz0, hz1, hz2⟩ := info_parts sr_info
  obtain ⟨w', hrun, r1, r2⟩ := run_make_full (P := Tryz.prog) W B 59 54 i0 (.slice none 0 0) 1 Tryz.underlying59 hi hz0 hz1 .i64 .i64 N (by rw [hz2]; omega) (by unfold maxLen; omega) hB
  have hb : Below W.heap.size W w' := ⟨r2.os, r2.tape, r2.output, r2.size, fun k hk => r2.block k hk (by simp)⟩
  have hh : HR w' B W.heap.size N (fun _ => (none, 0, 0)) := by
    refine ⟨N, ?_⟩
    unfold RowOf
    rw [List.length_map, List.length_range, sv1_flat]
    have e : (madeCells (Value.slice none 0 0).cells (N * 1)).toList = List.replicate N (Value.slice none 0 0) := by
      rw [Nat.mul_one]
      exact toList_madeCells_one _ _
    rw [e] at r1
    have e2 : ((List.range N).map fun _ => ((none, 0, 0) : SV)).map sv3 = List.replicate N (Value.slice none 0 0) := by
      rw [List.map_map]
      exact (List.map_const' ..).trans (by rw [List.length_range])
    rw [e2]
    exact r1
  unfold Oper.wp
  simp [execOp, ho, hx, hy, hrun, Result.andThen]
  exact h _ hh hb ((World.ownsRow.lt r1 W.heap.size rfl).2)
end
end Go.Proofs.YtmapagbmihpbmaaGreatDoor

namespace Go.Proofs.YtmapagbmihpbmaaGreatDoor
open Go.RowKit

theorem recs_len (us : List Vl) (cr cl R : Nat) : (recsP us cr cl R).length = R := by simp [recsP]
theorem recs_row (us : List Vl) (cr cl R : Nat) (hok : ∀ u ∈ colL us cr R, u.ok) : ∀ r ∈ recsP us cr cl R, r.row < (keysP (colL us cr R)).length := fun r hr => by
  obtain ⟨i, hi, rfl⟩ := List.mem_map.1 hr
  exact place_lt _ hok _ (colL_get us cr R i (List.mem_range.1 hi))
theorem recs_col (us : List Vl) (cr cl R : Nat) (hok : ∀ u ∈ colL us cl R, u.ok) : ∀ r ∈ recsP us cr cl R, r.col < (keysP (colL us cl R)).length := fun r hr => by
  obtain ⟨i, hi, rfl⟩ := List.mem_map.1 hr
  exact place_lt _ hok _ (colL_get us cl R i (List.mem_range.1 hi))
section
variable {P : Program} {ops : Array Oper} {Q : Exit → Act → World → Prop} {md : Region.Mode} {S1 S2 : World → Prop} {d : Nat}
theorem wpAnyG_cast {fuel : Nat} {L : Array Bool} (L' : Array Bool) {a : Act} {w : World} (e : (L == L') = true) (h : wpAnyG P md ops Q S1 S2 d fuel L' a w) : wpAnyG P md ops Q S1 S2 d fuel L a w := by
  rw [beq_iff_eq.1 e]
  exact h
end
/-- One header is put. -/
theorem BS.set1 {w W : World} {L : List (Nat × TypeId × Array Value)} {B M g1 nm g2 n g3 m : Nat} {H : Nat → SV} {F : Nat → List Rm} {Ha Hb Hc : Nat → SV} (h : BS w W L B M g1 nm g2 n g3 m H F Ha Hb Hc) (h2 : g1 ≠ g2) (h3 : g1 ≠ g3) (i : Nat) (v : SV) :
    BS w (W.setCell ⟨g1, i, none⟩ (sv3 v)) L B M g1 nm g2 n g3 m H F (up Ha i v) Hb Hc := by
  have hc : Chg W.heap.size [g1] W (W.setCell ⟨g1, i, none⟩ (sv3 v)) := (Chg.refl W.heap.size [g1] W).set (p := ⟨g1, i, none⟩) (.inl (List.mem_singleton.2 rfl)) _
  have hl := h.a1.lt
  refine ⟨h.loc.far1 (Nat.le_trans h.low hl.1) (fun x hx => Nat.lt_of_lt_of_le (h.own x hx) hl.1) _, h.bag.chg hc fun g hg => ?_, h.a1.set i v, h.a2.chg hc (fun e => h2 (List.mem_singleton.1 e).symm), h.a3.chg hc (fun e => h3 (List.mem_singleton.1 e).symm), Nat.le_trans h.base hc.size, h.low, h.own⟩
  obtain rfl := List.mem_singleton.1 hg
  obtain ⟨cs, hb⟩ := h.a1.blk
  exact ⟨_, cs, hb, by decide⟩
theorem BS.rot {w W : World} {L : List (Nat × TypeId × Array Value)} {B M g1 nm g2 n g3 m : Nat} {H : Nat → SV} {F : Nat → List Rm} {Ha Hb Hc : Nat → SV} (h : BS w W L B M g1 nm g2 n g3 m H F Ha Hb Hc) : BS w W L B M g2 n g3 m g1 nm H F Hb Hc Ha := ⟨h.loc, h.bag, h.a2, h.a3, h.a1, h.base, h.low, h.own⟩
theorem BS.congr {w W : World} {L : List (Nat × TypeId × Array Value)} {B M g1 nm g2 n g3 m : Nat} {H : Nat → SV} {F F' : Nat → List Rm} {Ha Hb Hc Ha' Hb' Hc' : Nat → SV} (h : BS w W L B M g1 nm g2 n g3 m H F Ha Hb Hc) (e0 : ∀ x, x < M → F x = F' x) (e1 : ∀ i, i < nm → Ha i = Ha' i) (e2 : ∀ i, i < n → Hb i = Hb' i) (e3 : ∀ i, i < m → Hc i = Hc' i) : BS w W L B M g1 nm g2 n g3 m H F' Ha' Hb' Hc' :=
  ⟨h.loc, h.bag.congr (fun _ _ => rfl) e0, h.a1.congr e1, h.a2.congr e2, h.a3.congr e3, h.base, h.low, h.own⟩
/-- The three headers are put back. -/
theorem BS.put3 {w W : World} {L : List (Nat × TypeId × Array Value)} {B M g1 nm g2 n g3 m : Nat} {H0 : Nat → SV} {F F' : Nat → List Rm} {x1 i k : Nat} {v1 v2 v3 : SV} (h : BS w W L B M g1 nm g2 n g3 m (up (up (up H0 x1 v1) (nm + i) v2) (nm + n + k) v3) F H0 (fun j => H0 (nm + j)) (fun j => H0 (nm + n + j)))
    (h12 : g1 ≠ g2) (h13 : g1 ≠ g3) (h23 : g2 ≠ g3) (l1 : x1 < nm) (l2 : i < n) (hF : ∀ x, x < M → F x = F' x) :
    BS w (((W.setCell ⟨g1, x1, none⟩ (sv3 v1)).setCell ⟨g2, i, none⟩ (sv3 v2)).setCell ⟨g3, k, none⟩ (sv3 v3)) L B M g1 nm g2 n g3 m (up (up (up H0 x1 v1) (nm + i) v2) (nm + n + k) v3) F' (up (up (up H0 x1 v1) (nm + i) v2) (nm + n + k) v3) (fun j => up (up (up H0 x1 v1) (nm + i) v2) (nm + n + k) v3 (nm + j)) (fun j => up (up (up H0 x1 v1) (nm + i) v2) (nm + n + k) v3 (nm + n + j)) := by
  have a := h.set1 h12 h13 x1 v1
  have b := a.rot.set1 h23 (Ne.symm h12) i v2
  have c := b.rot.set1 (Ne.symm h13) (Ne.symm h23) k v3
  refine c.rot.congr hF (fun j hj => ?_) (fun j hj => ?_) (fun j hj => ?_)
  · by_cases e : j = x1
    · rw [e, up_same, up_ne _ _ _ _ (by omega), up_ne _ _ _ _ (by omega), up_same]
    · rw [up_ne _ _ _ _ e, up_ne _ _ _ _ (by omega), up_ne _ _ _ _ (by omega), up_ne _ _ _ _ e]
  · by_cases e : j = i
    · rw [e, up_same, up_ne _ _ _ _ (by omega), up_same]
    · rw [up_ne _ _ _ _ e, up_ne _ _ _ _ (by omega), up_ne _ _ _ _ (by omega), up_ne _ _ _ _ (by omega)]
  · by_cases e : j = k
    · rw [e, up_same, up_same]
    · rw [up_ne _ _ _ _ e, up_ne _ _ _ _ (by omega), up_ne _ _ _ _ (by omega), up_ne _ _ _ _ (by omega)]
end Go.Proofs.YtmapagbmihpbmaaGreatDoor
