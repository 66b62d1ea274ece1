/- Plain: the keys of a pivot table, a key's place, its records. -/
import Derived.Test.YtmapagbmihpbmaaGreatDoorGp
import Derived.Test.YtmapagbmihpbmaaGreatDoorGb
import Derived.Test.YtmapagbmihpbmaaGreatDoorGa
import Derived.Test.YtmapagbmihpbmaaGreatDoorPvB
import Derived.Test.YtmapagbmihpbmaaGreatDoorGc
import Derived.Test.YtmapagbmihpbmaaGreatDoorGn
import Derived.Deep.RegionLaw
import Derived.Deep.AppendLies
import Derived.Deep.DeepCutAuto
set_option linter.unusedSimpArgs false
set_option linter.unusedVariables false
namespace Go.Proofs.YtmapagbmihpbmaaGreatDoor
open Go.RowKit

instance : Inhabited Vl := ⟨⟨0, ⟨#[]⟩, ⟨#[]⟩, ⟨#[]⟩, false, 0, 0, 0, none, 0, 0⟩⟩
noncomputable def keysP (l : List Vl) : List Vl := Pv.cmpct ordV (Sq.ins ordV l.toArray 0 l.length).toList
noncomputable def placeP (K : List Vl) (u : Vl) : Nat := Sq.bs (fun h => decide (ordV K[h]! u < 0)) 0 K.length
theorem tot_ok : Pv.Tot ordV Vl.ok := ⟨fun _ _ ha hb => (ordV_law ha hb ha).1, fun _ _ _ ha hb hc h1 h2 => by rcases (ordV_law ha hb hc).2.1 with h | h | h <;> omega⟩
theorem cmpct_mem {α : Type} (cf : α → α → Int) (l : List α) : ∀ x ∈ Pv.cmpct cf l, x ∈ l := by
  cases l with
  | nil => intro x h; exact h
  | cons y t =>
    intro x h
    rcases List.mem_cons.1 h with rfl | h
    · exact List.mem_cons_self ..
    · exact List.mem_cons_of_mem _ (Pv.cpt_mem cf t y x h)
theorem cmpct_len {α : Type} (cf : α → α → Int) (l : List α) : (Pv.cmpct cf l).length ≤ l.length := by
  cases l with
  | nil => exact Nat.le_refl _
  | cons y t => exact Nat.succ_le_succ (Pv.cpt_len cf t y)
theorem cmpct_pos {α : Type} (cf : α → α → Int) (l : List α) (h : 0 < l.length) : 0 < (Pv.cmpct cf l).length := by
  cases l with
  | nil => exact absurd h (by simp)
  | cons y t => exact Nat.succ_pos _
theorem ins_mem (l : List Vl) (u : Vl) : u ∈ (Sq.ins ordV l.toArray 0 l.length).toList ↔ u ∈ l := by
  have := (Sq.ins_perm ordV l.toArray 0 l.length).mem_iff (a := u)
  simpa using this
theorem keysP_mem (l : List Vl) : ∀ u ∈ keysP l, u ∈ l := fun u hu => (ins_mem l u).1 (cmpct_mem _ _ u hu)
theorem keysP_len (l : List Vl) : (keysP l).length ≤ l.length := by
  have h1 := cmpct_len ordV (Sq.ins ordV l.toArray 0 l.length).toList
  have h2 : (Sq.ins ordV l.toArray 0 l.length).toList.length = l.length := by rw [Array.length_toList, Sq.ins_len]; simp
  exact Nat.le_trans h1 (Nat.le_of_eq h2)
theorem keysP_pos (l : List Vl) (h : 0 < l.length) : 0 < (keysP l).length := by
  refine cmpct_pos _ _ ?_
  rw [Array.length_toList, Sq.ins_len]
  simpa using h
theorem getLastD_get {α : Type} [Inhabited α] : ∀ (l : List α) (a : α), (a :: l)[l.length]! = l.getLastD a
  | [], _ => rfl
  | x :: t, a => by
    rw [List.getLastD_cons, ← getLastD_get t x]
    rfl
theorem place_lt (l : List Vl) (hok : ∀ u ∈ l, u.ok) (u : Vl) (hu : u ∈ l) : placeP (keysP l) u < (keysP l).length := by
  have hpos : 0 < l.length := List.length_pos_of_mem hu
  have hget : ∀ (m : Array Vl) q, q < m.size → m[q]! ∈ m.toList := fun m q hq => by
    rw [getElem!_pos m q hq]; exact Array.getElem_mem_toList hq
  have hP : ∀ q, q < l.toArray.size → Vl.ok l.toArray[q]! := fun q hq => hok _ (by simpa using hget l.toArray q hq)
  obtain ⟨h1, h2⟩ := Pv.ins_last tot_ok l.toArray (by simpa using hpos) hP
  rw [show l.toArray.size = l.length by simp] at h2
  have hlen := Sq.ins_len ordV l.toArray 0 l.length
  rw [show l.toArray.size = l.length by simp] at hlen h1
  have hmem := (ins_mem l u).2 hu
  have hkp := keysP_pos l hpos
  refine Pv.bs_in _ _ hkp (decide_eq_false fun hc => ?_)
  have hkm := keysP_mem l
  unfold keysP at hc hkp hkm
  generalize hL : Sq.ins ordV l.toArray 0 l.length = L at hc h1 h2 hmem hlen hkp hkm
  obtain ⟨L⟩ := L
  simp only at hmem hc hkp hkm
  cases L with
  | nil => simp at hlen; omega
  | cons y t =>
    have hn : l.length - 1 = t.length := by simp at hlen; omega
    rw [hn] at h2
    have e1 : (⟨y :: t⟩ : Array Vl)[t.length]! = t.getLastD y := by rw [← getLastD_get t y]; simp
    have hLok : ∀ x ∈ y :: t, Vl.ok x := fun x hx => hok x ((ins_mem l x).1 (by rw [hL]; exact hx))
    have hyok := hLok y (List.mem_cons_self ..)
    have htok : ∀ x ∈ t, Vl.ok x := fun x hx => hLok x (List.mem_cons_of_mem _ hx)
    have hz : ordV (t.getLastD y) ((Pv.cpt ordV y t).getLastD y) = 0 := Pv.cpt_last tot_ok t y y hyok hyok htok (by have := tot_ok.anti y y hyok hyok; omega)
    have e2 : (Pv.cmpct ordV (y :: t))[(Pv.cmpct ordV (y :: t)).length - 1]! = (Pv.cpt ordV y t).getLastD y := by
      show (y :: Pv.cpt ordV y t)[(Pv.cpt ordV y t).length]! = _
      exact getLastD_get _ _
    rw [e2] at hc
    have hlast : t.getLastD y ∈ y :: t := by
      rw [← getLastD_get t y, getElem!_pos (y :: t) t.length (by simp)]
      exact List.getElem_mem _
    have hlast2 : (Pv.cpt ordV y t).getLastD y ∈ y :: t := cmpct_mem ordV (y :: t) _ (by
      show _ ∈ y :: Pv.cpt ordV y t
      rw [← getLastD_get, getElem!_pos (y :: Pv.cpt ordV y t) _ (by simp)]
      exact List.getElem_mem _)
    obtain ⟨k, hk, hku⟩ := List.getElem_of_mem hmem
    have h3 := h2 k (by simp at hk; omega)
    rw [e1] at h3
    have e3 : (⟨y :: t⟩ : Array Vl)[k]! = u := by
      rw [← hku]
      have hk' : k < (y :: t).length := by simpa using hk
      rw [getElem!_pos (⟨y :: t⟩ : Array Vl) k (by simpa using hk')]
      rfl
    rw [e3] at h3
    have uok := hok u hu
    have a1 := tot_ok.trans u (t.getLastD y) _ uok (hLok _ hlast) (hLok _ hlast2) h3 (by omega)
    have a2 := tot_ok.anti u _ uok (hLok _ hlast2)
    omega
/-- A record. -/
structure Rm where
  at_ : Nat
  row : Nat
  col : Nat
  v : Vl
def rmC (r : Rm) : List Value := .int .i64 r.at_ :: .int .i64 r.row :: .int .i64 r.col :: r.v.cs.toList
theorem rmC_len (r : Rm) : (rmC r).length = 12 := rfl
/-- The items of a column, the header's left out. -/
def colL (us : List Vl) (c R : Nat) : List Vl := (List.range R).map fun i => us[(i + 1) * 3 + c]!
theorem colL_len (us : List Vl) (c R : Nat) : (colL us c R).length = R := by simp [colL]
theorem colL_get (us : List Vl) (c R i : Nat) (h : i < R) : us[(i + 1) * 3 + c]! ∈ colL us c R := List.mem_map.2 ⟨i, List.mem_range.2 h, rfl⟩
noncomputable def recP (us : List Vl) (cr cc R : Nat) (i : Nat) : Rm := ⟨i + 1, placeP (keysP (colL us cr R)) us[(i + 1) * 3 + cr]!, placeP (keysP (colL us cc R)) us[(i + 1) * 3 + cc]!, us[(i + 1) * 3 + 2]!⟩
noncomputable def recsP (us : List Vl) (cr cc R : Nat) : List Rm := (List.range R).map (recP us cr cc R)
end Go.Proofs.YtmapagbmihpbmaaGreatDoor

namespace Go.Proofs.YtmapagbmihpbmaaGreatDoor
open Go.RowKit

theorem Chg.grownK {w w' : World} {row : Option Nat} (h : w.grownBy w' row) : Chg w.heap.size row.toList w w' :=
  ⟨h.os, h.tape, h.output, h.size, fun k hk hn => h.block k hk (fun e => hn (by rw [← e]; simp))⟩
section
variable {α β : Type} {E E' : TypeId} {size size' : Nat} {f : α → List Value} {f' : β → List Value} {w w' : World} {b b' : Nat} {v v' : Value} {l : List α} {l' : List β}
/-- Rows of different types lie in different blocks. -/
theorem RowOf.apart2 (h : RowOf E size f w b v l) (h' : RowOf E' size' f' w b' v' l') (hne : E ≠ E') {g : Nat} (hg : v.ownBlock = some g) : v'.ownBlock ≠ some g := by
  intro e
  rcases h.2 with ⟨rfl, _⟩ | ⟨g1, cap, cur, rfl, _, h2, _⟩
  · cases hg
  · rcases h'.2 with ⟨rfl, _⟩ | ⟨g2, cap2, cur2, rfl, _, h3, _⟩
    · cases e
    · injection hg with hg
      injection e with e
      subst hg e
      rw [h2] at h3
      injection h3 with h3
      injection h3 with _ ht
      exact hne ht
theorem RowOf.mono (h : RowOf E size f w b v l) (hb : b' ≤ b) : RowOf E size f w b' v l := by
  refine ⟨h.1, ?_⟩
  rcases h.2 with h0 | ⟨g, cap, cur, e, a1, a2⟩
  · exact .inl h0
  · exact .inr ⟨g, cap, cur, e, Nat.le_trans hb a1, a2⟩
/-- A row stays while rows of another type are changed. -/
theorem RowOf.kept2 (h : RowOf E size f w b v l) (h' : RowOf E' size' f' w b' v' l') (hne : E ≠ E') (hc : Chg w.heap.size v'.ownBlock.toList w w') : RowOf E size f w' b v l :=
  RowOf.chg h hc fun g hg => ⟨(RowOf.lt h g hg).2, fun hm => RowOf.apart2 h h' hne hg (by simpa using hm)⟩
end
theorem Loc.alloc0 {w W : World} {L : List (Nat × TypeId × Array Value)} (h : Loc w L W) (o : Obj) : Loc w L (W.alloc o) := ⟨h.1.alloc h.1.size _, fun x hx => ⟨(h.2 x hx).1, (h.2 x hx).2.alloc _⟩⟩
theorem Loc.far1 {w W : World} {L : List (Nat × TypeId × Array Value)} {g i : Nat} (h : Loc w L W) (hg : w.heap.size ≤ g) (hne : ∀ x ∈ L, x.1 < g) (a : Value) : Loc w L (W.setCell ⟨g, i, none⟩ a) :=
  ⟨h.1.setCell (p := ⟨g, i, none⟩) hg _, fun x hx => ⟨(h.2 x hx).1, (h.2 x hx).2.far (Nat.ne_of_lt (hne x hx)) _⟩⟩
theorem Loc.far3 {w W : World} {L : List (Nat × TypeId × Array Value)} {g : Nat} (h : Loc w L W) (hg : w.heap.size ≤ g) (hne : ∀ x ∈ L, x.1 < g) (a b c : Value) : Loc w L (((W.setCell ⟨g, 0, none⟩ a).setCell ⟨g, 1, none⟩ b).setCell ⟨g, 2, none⟩ c) :=
  ((h.far1 hg hne a).far1 hg hne b).far1 hg hne c
theorem Loc.cons {w W : World} {L : List (Nat × TypeId × Array Value)} {g : Nat} {t : TypeId} {cs : Array Value} (h : Loc w L W) (hg : w.heap.size ≤ g) (hb : Blk W g t cs) : Loc w ((g, t, cs) :: L) W :=
  ⟨h.1, fun x hx => by
    rcases List.mem_cons.1 hx with rfl | hx
    · exact ⟨hg, hb⟩
    · exact h.2 x hx⟩
theorem Loc.stepB' {w W W' : World} {L : List (Nat × TypeId × Array Value)} {B : Nat} (h : Loc w L W) (hb : Below B W W') (hB : w.heap.size ≤ B) (hl : ∀ x ∈ L, x.1 < B) : Loc w L W' :=
  ⟨h.1.trans (hb.mono hB), fun x hx => ⟨(h.2 x hx).1, (h.2 x hx).2.below hb (hl x hx)⟩⟩
/-- A key of one item, in a block of its own. -/
abbrev KO (W : World) (b : Nat) (x : SV) (u : Vl) : Prop := RowOf 27 9 csV W b (sv3 x) [u]
theorem csV_len (u : Vl) : (csV u).length = 9 := rfl
theorem csV_one (u : Vl) : (csV u).length = 9 ∧ ∀ x ∈ csV u, x.oneCell' = true := ⟨rfl, by simp [csV, Vl.cs, Value.oneCell']⟩
theorem val_info : (Tryz.prog.info? 27).map (fun i => (i.zero, i.size, i.bytes)) = some (some (.agg #[.int .i64 0, .string ⟨#[]⟩, .string ⟨#[]⟩, .string ⟨#[]⟩, .bool false, .int .i64 0, .int .i64 0, .int .i64 0, .slice none 0 0]), 9, 112) := by kernel_rfl
theorem sv_info : (Tryz.prog.info? 25).map (fun i => (i.zero, i.size, i.bytes)) = some (some (.slice none 0 0), 1, 24) := by kernel_rfl
theorem sv_one (x : SV) : [sv3 x].length = 1 ∧ ∀ u ∈ [sv3 x], u.oneCell' = true := ⟨rfl, by simp [sv3, Value.oneCell']⟩
theorem RowOf.kr {W : World} {b : Nat} {x : SV} {u : Vl} (h : KO W b x u) : KR W x u := RowOf.reads h csV_len
/-- Slices of slices read as keys. -/
def KRows (W : World) (v : Value) (K : List Vl) : Prop := ∃ H : List SV, Reads 1 (fun x => [sv3 x]) W v H ∧ All2 (KR W) H K
theorem KRows.below {W W' : World} {v : Value} {K : List Vl} (h : KRows W v K) (hb : Below W.heap.size W W') : KRows W' v K := by
  obtain ⟨H, h1, h2⟩ := h
  exact ⟨H, h1.below hb, h2.imp fun _ _ _ hk => hk.below hb⟩
theorem KRows.shape {W : World} {v : Value} {K : List Vl} (h : KRows W v K) : ∃ A c, v = .slice A K.length c := by
  obtain ⟨H, h1, h2⟩ := h
  obtain ⟨A, c, e⟩ := h1.shape
  exact ⟨A, c, by rw [e, h2.len]⟩
theorem KRows.get {W : World} {A : Option Addr} {n c : Nat} {K : List Vl} (h : KRows W (.slice A n c) K) : K.length = n ∧ (0 < n → ∃ b o, A = some ⟨b, o, none⟩ ∧ b < W.heap.size ∧ ∀ i (hi : i < K.length), ∃ x : SV, W.cell? ⟨b, o + i, none⟩ = some (sv3 x) ∧ KR W x K[i]!) := by
  obtain ⟨H, ⟨A', c', e, h0, h1, h3⟩, h2⟩ := h
  injection e with e1 e2 e3
  subst e1 e3
  have hl := h2.len
  refine ⟨by omega, fun hn => ?_⟩
  obtain ⟨b, o, e4, hb, hc⟩ := h3 (by omega)
  refine ⟨b, o, e4, hb, fun i hi => ⟨H[i]'(by omega), ?_, ?_⟩⟩
  · have := hc i (by omega) 0 (by decide)
    rw [show o + (i * 1 + 0) = o + i by omega] at this
    exact this
  · rw [getElem!_pos K i hi]
    exact h2.get i (by omega) hi
/-- Keys whose blocks are known by their types. -/
def KT (W : World) (v : Value) (K : List Vl) : Prop :=
  ∃ (g c : Nat) (H : List SV), v = .slice (some ⟨g, 0, none⟩) H.length c ∧ (∃ cs, Blk W g 25 cs) ∧ Reads 1 (fun x => [sv3 x]) W v H ∧ All2 (fun x u => ∃ b, KO W b x u) H K
theorem KT.rows {W : World} {v : Value} {K : List Vl} (h : KT W v K) : KRows W v K := by
  obtain ⟨g, c, H, -, -, h1, h2⟩ := h
  exact ⟨H, h1, h2.imp fun x _ u ⟨b, hk⟩ => RowOf.kr hk⟩
theorem KT.chg {W W' : World} {v : Value} {K : List Vl} {G : List Nat} (h : KT W v K) (hc : Chg W.heap.size G W W') (hg : ∀ g ∈ G, ∃ t cs, Blk W g t cs ∧ t ≠ 27 ∧ t ≠ 25) : KT W' v K := by
  obtain ⟨g, c, H, rfl, ⟨cs, hb⟩, ⟨A', c', e, h0, h1, h3⟩, h2⟩ := h
  have hng : g ∉ G := fun hm => by
    obtain ⟨t, cs', hb', -, hne⟩ := hg g hm
    exact Blk.ne_ hb' hb hne rfl
  injection e with e1 e2 e3
  subst e1 e3
  refine ⟨g, c, H, rfl, ⟨cs, hc.blk hb hb.lt hng⟩, ⟨_, c, rfl, h0, h1, fun hl => ?_⟩, h2.imp fun x _ u ⟨b, hk⟩ => ⟨b, RowOf.chg hk hc fun k e => ⟨(RowOf.lt hk k e).2, fun hm => by
    obtain ⟨t, cs', hb', hne, -⟩ := hg k hm
    rcases hk.2 with ⟨h0, _⟩ | ⟨g1, cap, cur, h1, _, h2, _⟩
    · rw [h0] at e; cases e
    · rw [h1] at e
      injection e with e
      subst e
      exact Blk.ne_ hb' (show Blk W _ _ cur from h2) hne rfl⟩⟩⟩
  obtain ⟨b, o, e, hbl, hcell⟩ := h3 hl
  injection e with e
  injection e with e4 e5
  subst e4 e5
  refine ⟨g, 0, rfl, Nat.lt_of_lt_of_le hbl hc.size, fun i hi j hj => ?_⟩
  have := hcell i hi j hj
  rw [← this]
  exact World.cell?_of_block (hc.block g hb.lt hng)
theorem KT.later {W W' : World} {v : Value} {K : List Vl} (h : KT W v K) (hb : Below W.heap.size W W') : KT W' v K := h.chg (Chg.of hb []) (fun _ hm => by cases hm)
theorem KT.drew {W : World} {v : Value} {K : List Vl} (h : KT W v K) : KT W.drew v K := h
section
variable {α β : Type} [Inhabited α] [Inhabited β] (f : α → β) (cf : β → β → Int)
theorem map_get! (l : Array α) (i : Nat) (h : i < l.size) : (l.map f)[i]! = f l[i]! := by
  rw [getElem!_pos l i h, getElem!_pos (l.map f) i (by simpa using h), Array.getElem_map]
theorem sw_map (l : Array α) (i j : Nat) : (Sq.sw l i j).map f = Sq.sw (l.map f) i j := by
  by_cases h : i < l.size ∧ j < l.size
  · rw [Sq.sw_of h.1 h.2, Sq.sw_of (by simpa using h.1) (by simpa using h.2)]
    unfold Go.Sort.swp
    rw [map_get! f l i h.1, map_get! f l j h.2, Array.map_setIfInBounds, Array.map_setIfInBounds]
  · rw [Sq.sw, if_neg h, Sq.sw, if_neg (by simpa using h)]
theorem insJ_map (a : Nat) : ∀ (j : Nat) (l : Array α), j < l.size → (Sq.insJ (fun p q => cf (f p) (f q)) a j l).map f = Sq.insJ cf a j (l.map f)
  | 0, _, _ => rfl
  | j + 1, l, h => by
    rw [Sq.insJ, Sq.insJ, map_get! f l (j + 1) h, map_get! f l j (by omega)]
    split
    · rw [insJ_map a j _ (by rw [Sq.sw_len]; omega), sw_map]
    · rfl
theorem insO_map (a : Nat) : ∀ (k i : Nat) (l : Array α), i + k ≤ l.size → (Sq.insO (fun p q => cf (f p) (f q)) a k i l).map f = Sq.insO cf a k i (l.map f)
  | 0, _, _, _ => rfl
  | k + 1, i, l, h => by
    rw [Sq.insO, Sq.insO, insO_map a k (i + 1) _ (by rw [Sq.insJ_len]; omega), insJ_map f cf a i l (by omega)]
theorem ins_map (l : Array α) : (Sq.ins (fun p q => cf (f p) (f q)) l 0 l.size).map f = Sq.ins cf (l.map f) 0 l.size := by
  rcases Nat.eq_zero_or_pos l.size with h | h
  · unfold Sq.ins
    rw [h]
    rfl
  · exact insO_map f cf 0 _ _ l (by omega)
omit [Inhabited α] [Inhabited β] in
theorem cpt_map : ∀ (l : List α) (p : α), (Pv.cpt (fun p q => cf (f p) (f q)) p l).map f = Pv.cpt cf (f p) (l.map f)
  | [], _ => rfl
  | x :: t, p => by
    rw [Pv.cpt, List.map_cons, Pv.cpt]
    split
    · exact cpt_map t x
    · rw [List.map_cons, cpt_map t x]
omit [Inhabited α] [Inhabited β] in
theorem cmpct_map (l : List α) : (Pv.cmpct (fun p q => cf (f p) (f q)) l).map f = Pv.cmpct cf (l.map f) := by
  cases l with
  | nil => rfl
  | cons x t => exact congrArg (f x :: ·) (cpt_map f cf t x)
end
abbrev PK : Type := SV × Vl
noncomputable def cfP (p q : PK) : Int := ordV p.2 q.2
theorem sort_keys (P : List PK) (n : Nat) (hn : P.length = n) : (Pv.cmpct cfP (Sq.ins cfP P.toArray 0 n).toList).map Prod.snd = keysP (P.map Prod.snd) := by
  subst hn
  unfold keysP
  have h := ins_map (α := PK) (β := Vl) Prod.snd ordV P.toArray
  rw [show P.toArray.size = P.length by simp, show Array.map Prod.snd P.toArray = (P.map Prod.snd).toArray by simp] at h
  have e : (fun p q : PK => ordV p.2 q.2) = cfP := rfl
  rw [e] at h
  have h2 := cmpct_map (α := PK) (β := Vl) Prod.snd ordV (Sq.ins cfP P.toArray 0 P.length).toList
  rw [e] at h2
  rw [h2, List.length_map, ← h, Array.toList_map]
end Go.Proofs.YtmapagbmihpbmaaGreatDoor

namespace Go.Proofs.YtmapagbmihpbmaaGreatDoor
open Go.RowKit

/-- A row of records. -/
abbrev RO (W : World) (b : Nat) (v : Value) (l : List Rm) : Prop := RowOf 61 12 rmC W b v l
theorem rm_one (r : Rm) : (rmC r).length = 12 ∧ ∀ x ∈ rmC r, x.oneCell' = true := ⟨rfl, by simp [rmC, Vl.cs, Value.oneCell']⟩
theorem rec_info : (Tryz.prog.info? 61).map (fun i => (i.zero, i.size, i.bytes)) = some (some (.agg #[.int .i64 0, .int .i64 0, .int .i64 0, .int .i64 0, .string ⟨#[]⟩, .string ⟨#[]⟩, .string ⟨#[]⟩, .bool false, .int .i64 0, .int .i64 0, .int .i64 0, .slice none 0 0]), 12, 136) := by kernel_rfl
theorem sr_info : (Tryz.prog.info? 54).map (fun i => (i.zero, i.size, i.bytes)) = some (some (.slice none 0 0), 1, 24) := by kernel_rfl
section
variable {ops : Array Oper} {o : Oper} {a : Act} {K : Act → World → Prop} {Q : Exit → Act → World → Prop} {X : Prop}
/-- append of one element to a row of the call's own, at a step of a region that draws; which block grows. -/
theorem step_row2 {α : Type} (T E : TypeId) (size bytes : Nat) (f : α → List Value) (z : Value) (hu : Tryz.prog.underlying T = some (.slice E)) (hinfo : (Tryz.prog.info? E).map (fun i => (i.zero, i.size, i.bytes)) = some (some z, size, bytes)) (hzs : z.cells.size = size) (hsz : 0 < size)
    (hf : ∀ x, (f x).length = size ∧ ∀ u ∈ f x, u.oneCell' = true)
    {w : World} (hgd : o.guard = none) (s x : Operand) (ho : o.op = .call { callee := .builtin .append, args := #[s, x], argTypes := #[T, T] })
    (base : Nat) (v : Value) (l : List α) (hs : a.eval s = v) (hown : RowOf E size f w base v l) (d : α) (b : Nat) (cs : Array Value) (hcs : cs.toList = f d) (hb : Blk w b E cs) (hx : a.eval x = .slice (some ⟨b, 0, none⟩) 1 1)
    (hby : (l.length + 1) * bytes ≤ 140737488355328) (h63 : l.length + 1 ≤ maxLen) (hbase : base ≤ w.heap.size)
    (h : ∀ g cap w', RowOf E size f w' base (.slice (some ⟨g, 0, none⟩) (l.length + 1) cap) (l ++ [d]) → Below base w w' → w.grownBy w' v.ownBlock → (v.ownBlock = some g ∨ g = w.heap.size) → K (a.put o.dst (.slice (some ⟨g, 0, none⟩) (l.length + 1) cap)) w') :
    if Region.wanted o (yielded ops a.tmps) = true then Oper.wp Tryz.prog o a w K Q else X := by
  obtain ⟨i0, hi, hz0, hz1, hz2⟩ := info_parts hinfo
  refine step_append_lies (P := Tryz.prog) w hgd s x T ho base E i0 z size bytes hu hi hz0 hz1 hz2 hzs hsz v l.length (l.flatMap f) hs hown ⟨b, 0, none⟩ 1 1 (f d) hx (by rw [(hf d).1]; omega) (fun j u hj => by
    rw [show ((⟨b, 0, none⟩ : Addr).add j) = ⟨b, j, none⟩ by cases j <;> simp [Addr.add], hb.cell j, ← Array.getElem?_toList, hcs]
    exact hj) (hf d).2 (by decide) h63 hby hbase _ rfl ?_
  intro g cap w' h1 h2 h3 _
  refine h g cap w' ?_ ?_ h2 h3
  · unfold RowOf
    rw [List.flatMap_append, List.length_append]
    simpa using h1
  · exact (Below.refl _ _).grown h2 hbase (fun k hk => ((World.ownsRow.lt hown) k hk).1)
end
/-- Rows of records under numbers below M, no two in one block. -/
structure Bg (W : World) (B M : Nat) (H : Nat → SV) (F : Nat → List Rm) : Prop where
  row : ∀ x, x < M → RO W B (sv3 (H x)) (F x)
  sep : ∀ x y, x < M → y < M → x ≠ y → ∀ k, (sv3 (H x)).ownBlock = some k → (sv3 (H y)).ownBlock ≠ some k
def up {α : Type} (H : Nat → α) (x : Nat) (v : α) : Nat → α := fun y => if y = x then v else H y
theorem up_same {α : Type} (H : Nat → α) (x : Nat) (v : α) : up H x v x = v := if_pos rfl
theorem up_ne {α : Type} (H : Nat → α) (x y : Nat) (v : α) (h : y ≠ x) : up H x v y = H y := if_neg h
section
variable {W W' : World} {B M : Nat} {H : Nat → SV} {F : Nat → List Rm}
theorem Bg.nil (W : World) (B M : Nat) : Bg W B M (fun _ => (none, 0, 0)) (fun _ => []) := ⟨fun _ _ => RowOf.nil _ _, fun _ _ _ _ _ _ h => by cases h⟩
theorem Bg.later (h : Bg W B M H F) (hb : Below W.heap.size W W') : Bg W' B M H F := ⟨fun x hx => RowOf.later (h.row x hx) hb, h.sep⟩
theorem Bg.drew (h : Bg W B M H F) : Bg W.drew B M H F := ⟨fun x hx => RowOf.drew (h.row x hx), h.sep⟩
theorem Bg.drewN (h : Bg W B M H F) (n : Nat) : Bg (W.drewN n) B M H F := ⟨fun x hx => RowOf.drewN (h.row x hx) n, h.sep⟩
theorem Bg.alloc (h : Bg W B M H F) (o : Obj) : Bg (W.alloc o) B M H F := ⟨fun x hx => RowOf.alloc (h.row x hx) o, h.sep⟩
/-- Blocks of another type are changed. -/
theorem Bg.chg {G : List Nat} (h : Bg W B M H F) (hc : Chg W.heap.size G W W') (hg : ∀ g ∈ G, ∃ t cs, Blk W g t cs ∧ t ≠ 61) : Bg W' B M H F :=
  ⟨fun x hx => RowOf.chg (h.row x hx) hc fun g e => ⟨(RowOf.lt (h.row x hx) g e).2, fun hm => by
    obtain ⟨t, cs, hb, hne⟩ := hg g hm
    rcases (h.row x hx).2 with ⟨h0, _⟩ | ⟨g1, cap, cur, h1, _, h2, _⟩
    · rw [h0] at e; cases e
    · rw [h1] at e
      injection e with e
      subst e
      unfold Blk at hb
      rw [h2] at hb
      injection hb with hb
      injection hb with _ ht
      exact hne ht.symm⟩, h.sep⟩
/-- One of them grows. -/
theorem Bg.app (h : Bg W B M H F) {x : Nat} (_hx : x < M) {v : SV} {l : List Rm} (h1 : RO W' B (sv3 v) l) (h2 : W.grownBy W' (sv3 (H x)).ownBlock) (h3 : (sv3 v).ownBlock = (sv3 (H x)).ownBlock ∨ ∃ k, (sv3 v).ownBlock = some k ∧ W.heap.size ≤ k) : Bg W' B M (up H x v) (up F x l) := by
  have hsep : ∀ y, y < M → y ≠ x → ∀ k, (sv3 v).ownBlock = some k → (sv3 (H y)).ownBlock ≠ some k := fun y hy hne k hk hk2 => by
    rcases h3 with h3 | ⟨k', h3, h4⟩
    · exact h.sep x y _hx hy (Ne.symm hne) k (h3 ▸ hk) hk2
    · rw [h3] at hk
      injection hk with hk
      subst hk
      have := (RowOf.lt (h.row y hy) _ hk2).2
      omega
  refine ⟨fun y hy => ?_, fun y z hy hz hne k hk => ?_⟩
  · by_cases e : y = x
    · subst e
      rw [up_same, up_same]
      exact h1
    · rw [up_ne _ _ _ _ e, up_ne _ _ _ _ e]
      refine World.ownsRow.kept (h.row y hy) h2 ?_
      cases hv : (sv3 (H y)).ownBlock with
      | none => exact .inl rfl
      | some k => exact .inr (fun e2 => h.sep y x hy _hx e k hv e2.symm)
  · by_cases e : y = x
    · subst e
      rw [up_same] at hk
      rw [up_ne _ _ _ _ (Ne.symm hne)]
      exact hsep z hz (Ne.symm hne) k hk
    · rw [up_ne _ _ _ _ e] at hk
      by_cases e2 : z = x
      · subst e2
        rw [up_same]
        exact fun h9 => hsep y hy e k h9 hk
      · rw [up_ne _ _ _ _ e2]
        exact h.sep y z hy hz hne k hk
end
theorem RowOf.typed {α : Type} {E : TypeId} {size : Nat} {f : α → List Value} {w : World} {b : Nat} {v : Value} {l : List α} (h : RowOf E size f w b v l) : ∀ g ∈ v.ownBlock.toList, ∃ cs, Blk w g E cs := fun g hg => by
  have hg : v.ownBlock = some g := by simpa using hg
  rcases h.2 with ⟨h0, _⟩ | ⟨g1, cap, cur, h1, _, h2, _⟩
  · rw [h0] at hg; cases hg
  · rw [h1] at hg
    injection hg with hg
    subst hg
    exact ⟨cur, h2⟩
/-- A record is put: what stays. -/
theorem rec_put {w W w5 : World} {L : List (Nat × TypeId × Array Value)} {z : Nat} {t : TypeId} {s1 s2 rv nv : Value} {K1 K2 : List Vl} {l l' : List Rm} {B : Nat} (hL : Loc w ((z, t, #[s1, s2, rv]) :: L) W) (hne : ∀ x ∈ L, x.1 ≠ z) (hlt : ∀ x ∈ L, x.1 < B) (hzB : z < B) (hB : B ≤ W.heap.size) (ht : t ≠ 27 ∧ t ≠ 25) (hK1 : KT W s1 K1) (hK2 : KT W s2 K2) (hO : RO W B rv l) (hb : Below B W w5) (hg : W.grownBy w5 rv.ownBlock) (ho : RO w5 B nv l') :
    (w5.cell? ⟨z, 2, none⟩ = some rv ∧ w5.frozen? ⟨z, 2, none⟩ = false ∧ Loc w ((z, t, #[s1, s2, rv]) :: L) w5) ∧ Loc w ((z, t, #[s1, s2, nv]) :: L) (w5.setCell ⟨z, 2, none⟩ nv) ∧ KT (w5.setCell ⟨z, 2, none⟩ nv) s1 K1 ∧ KT (w5.setCell ⟨z, 2, none⟩ nv) s2 K2 ∧ RO (w5.setCell ⟨z, 2, none⟩ nv) B nv l' ∧ B ≤ (w5.setCell ⟨z, 2, none⟩ nv).heap.size := by
  have hw : w.heap.size ≤ B := by
    have := (hL.2 _ (List.mem_cons_self ..)).1
    exact Nat.le_of_lt (Nat.lt_of_le_of_lt this hzB)
  have hL5 := hL.stepB' hb hw (fun x hx => by
    rcases List.mem_cons.1 hx with rfl | hx
    · exact hzB
    · exact hlt x hx)
  have hz := hL5.blk (g := z) (t := t) (List.mem_cons_self ..)
  have hty : ∀ g ∈ rv.ownBlock.toList, ∃ t cs, Blk W g t cs ∧ t ≠ 27 ∧ t ≠ 25 := fun g hm => by
    obtain ⟨cs, h⟩ := RowOf.typed hO g hm
    exact ⟨_, cs, h, by decide, by decide⟩
  have hc : Chg w5.heap.size [z] w5 (w5.setCell ⟨z, 2, none⟩ nv) := (Chg.refl w5.heap.size [z] w5).set (p := ⟨z, 2, none⟩) (.inl (List.mem_singleton.2 rfl)) nv
  have hzt : ∀ g ∈ [z], ∃ t cs, Blk w5 g t cs ∧ t ≠ 27 ∧ t ≠ 25 := fun g hm => by
    obtain rfl := List.mem_singleton.1 hm
    exact ⟨t, _, hz, ht.1, ht.2⟩
  refine ⟨⟨hz.cell 2, hz.frozen 2, hL5⟩, ?_, (hK1.chg (Chg.grownK hg) hty).chg hc hzt, (hK2.chg (Chg.grownK hg) hty).chg hc hzt, RowOf.far ho (fun k hk e => by
    have h1 := (RowOf.lt ho k hk).1
    have e : k = z := e
    omega) nv, ?_⟩
  · have := hL5.set1 (i := 2) hne nv
    exact this
  · have := hb.size
    simp only [World.setCell, Array.size_modify]
    omega
/-- A row of headers, as a function's values. -/
def HR (W : World) (B g N : Nat) (H : Nat → SV) : Prop := ∃ c, RowOf 54 1 (fun x => [sv3 x]) W B (.slice (some ⟨g, 0, none⟩) N c) ((List.range N).map H)
section
variable {W W' : World} {B g N : Nat} {H H' : Nat → SV} {G : List Nat}
theorem HR.cell (h : HR W B g N H) {i : Nat} (hi : i < N) : W.cell? ⟨g, i, none⟩ = some (sv3 (H i)) := by
  obtain ⟨c, h⟩ := h
  have h := (show W.ownsRow B 54 1 (.slice (some ⟨g, 0, none⟩) N c) ((List.range N).map H).length _ from h)
  rw [show ((List.range N).map H).length = N by simp] at h
  have := World.ownsRow.cellAt h i (by simpa using hi)
  rw [this, sv1_flat]
  simp [hi]
theorem HR.frozen (h : HR W B g N H) (i : Nat) : W.frozen? ⟨g, i, none⟩ = false := by
  obtain ⟨c, h⟩ := h
  have h := (show W.ownsRow B 54 1 (.slice (some ⟨g, 0, none⟩) N c) ((List.range N).map H).length _ from h)
  rw [show ((List.range N).map H).length = N by simp] at h
  exact World.ownsRow.frozenAt h i
theorem HR.lt (h : HR W B g N H) : B ≤ g ∧ g < W.heap.size := by
  obtain ⟨c, h⟩ := h
  exact RowOf.lt h g rfl
theorem HR.congr (h : HR W B g N H) (e : ∀ i, i < N → H i = H' i) : HR W B g N H' := by
  obtain ⟨c, h⟩ := h
  have e2 : (List.range N).map H = (List.range N).map H' := List.map_congr_left fun x hx => e x (List.mem_range.1 hx)
  rw [e2] at h
  exact ⟨c, h⟩
theorem HR.set (h : HR W B g N H) (i : Nat) (x : SV) : HR (W.setCell ⟨g, i, none⟩ (sv3 x)) B g N (up H i x) := by
  obtain ⟨c, h⟩ := h
  refine ⟨c, ?_⟩
  have h0 := (show W.ownsRow B 54 1 (.slice (some ⟨g, 0, none⟩) N c) ((List.range N).map H).length _ from h)
  rw [show ((List.range N).map H).length = N by simp] at h0
  have := (World.ownsRow.stored h0 i (sv3 x)).1
  unfold RowOf
  have e : (List.range N).map (up H i x) = ((List.range N).map H).set i x := by
    apply List.ext_getElem
    · simp
    · intro j h1 h2
      rw [List.getElem_set]
      simp only [List.getElem_map, List.getElem_range]
      by_cases h : i = j
      · rw [if_pos h, ← h, up_same]
      · rw [if_neg h, up_ne _ _ _ _ (Ne.symm h)]
  rw [e, List.length_set, List.length_map, List.length_range, sv1_flat, List.map_set, ← sv1_flat]
  exact this
theorem HR.chg (h : HR W B g N H) (hc : Chg W.heap.size G W W') (hG : g ∉ G) : HR W' B g N H := by
  have hl := h.lt.2
  obtain ⟨c, h⟩ := h
  exact ⟨c, RowOf.chg h hc fun k hk => by injection hk with hk; subst hk; exact ⟨hl, hG⟩⟩
theorem HR.later (h : HR W B g N H) (hb : Below W.heap.size W W') : HR W' B g N H := h.chg (Chg.of hb []) (by simp)
theorem HR.drew (h : HR W B g N H) : HR W.drew B g N H := h
theorem HR.blk (h : HR W B g N H) : ∃ cs, Blk W g 54 cs := by
  obtain ⟨c, -, h⟩ := h
  rcases h with ⟨h0, _⟩ | ⟨g1, cap, cur, e, _, h2, _⟩
  · cases h0
  · injection e with e
    injection e with e
    injection e with e
    subst e
    exact ⟨cur, h2⟩
end
end Go.Proofs.YtmapagbmihpbmaaGreatDoor
