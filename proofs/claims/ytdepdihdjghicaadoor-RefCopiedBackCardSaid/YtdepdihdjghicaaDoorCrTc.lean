/- A reference is read from its text: parseF of Ref.text. -/
import Derived.Test.YtdepdihdjghicaaDoorCrTb
import Derived.Lib.Case
namespace Go.Proofs.YtdepdihdjghicaaDoor
open Go.RowKit

def Ref.textL (r : Ref) (L1 L2 : List UInt8) : List UInt8 :=
  if r.kind = 0 then Cr.sheetS r.sheet.data.toList ++ Cr.dollar r.ac L1 ++ Cr.rowS r.row r.ar
  else if r.kind = 1 then Cr.sheetS r.sheet.data.toList ++ Cr.dollar r.ac L1 ++ Cr.rowS r.row r.ar ++ [58] ++ Cr.dollar r.ac2 L2 ++ Cr.rowS r.row2 r.ar2
  else if r.kind = 2 then Cr.sheetS r.sheet.data.toList ++ Cr.rowS r.row r.ar ++ [58] ++ Cr.rowS r.row2 r.ar2
  else if r.kind = 3 then Cr.sheetS r.sheet.data.toList ++ Cr.dollar r.ac L1 ++ [58] ++ Cr.dollar r.ac2 L2
  else [35, 82, 69, 70, 33]

theorem Ref.text_eq (r : Ref) : r.text = r.textL (Cr.lt (r.col.toNat + 1)) (Cr.lt (r.col2.toNat + 1)) := rfl

theorem Cr.rowS_eq {n : Int} (h : 0 ≤ n) (b : Bool) : Cr.rowS n b = Cr.dollar b (Lib.decDigits (n.toNat + 1)) := by
  unfold Cr.rowS Lib.itoa
  rw [if_neg (by omega), show (n + 1).toNat = n.toNat + 1 by omega]

theorem parse_core {l : List UInt8} {H : Halves} {r : Ref} (hl : l.length ≤ 500) (hne : l ≠ [35, 82, 69, 70, 33]) (hH : halves l = H) (hb : H.bad = false)
    (ha : (Cr.valuesF H.a).2.2 = 0) (hv : (Cr.valuesF H.b).2.2 = 0) (hr : H.ref = r) (ho : r.ordered = r) (hc : r.check = 0) : parseF l = (r, 0) := by
  rw [parseF, if_neg (by omega), if_neg hne]
  dsimp only
  rw [hH, hb, hr, ho, hc, ha, hv]
  simp

theorem Ref.ordered_of {r : Ref} (h : r.kind = 0 ∨ (r.row ≤ r.row2 ∧ r.col ≤ r.col2)) : r.ordered = r := by
  unfold Ref.ordered
  rcases h with h | ⟨h1, h2⟩
  · rw [if_pos h]
  · split
    · rfl
    · rw [if_neg (by omega), if_neg (by omega)]

theorem Ref.meaning_fix {r : Ref} (h : r = r.meaning) : (r.kind = 0 → r.row2 = 0 ∧ r.col2 = 0 ∧ r.ar2 = false ∧ r.ac2 = false) ∧ (r.kind = 2 → r.col = 0 ∧ r.col2 = 0 ∧ r.ac = false ∧ r.ac2 = false) ∧
    (r.kind = 3 → r.row = 0 ∧ r.row2 = 0 ∧ r.ar = false ∧ r.ar2 = false) ∧ (r.kind = 4 → r = Ref.bad) := by
  obtain ⟨sh, k, ro, co, ro2, co2, ar, ac, ar2, ac2⟩ := r
  refine ⟨fun hk => ?_, fun hk => ?_, fun hk => ?_, fun hk => ?_⟩
  all_goals
    dsimp only at hk
    subst hk
    simp [Ref.meaning] at h
    simp [h]

theorem head_no35 {sh rest : List UInt8} (hr : ∀ c ∈ rest, Cr.plc c = true ∨ c = 58) : Cr.sheetS sh ++ rest ≠ [35, 82, 69, 70, 33] := by
  intro h
  have h35 : (Cr.sheetS sh ++ rest).head? = some 35 := by rw [h]; rfl
  unfold Cr.sheetS at h35
  split at h35
  · have hm : 35 ∈ rest := List.mem_of_mem_head? h35
    rcases hr _ hm with h | h
    · exact (Cr.plc_ne h).2.1 rfl
    · cases h
  · rename_i h0
    split at h35
    · rename_i hp
      cases sh with
      | nil => exact h0 rfl
      | cons c t =>
        obtain rfl : c = 35 := by simpa using h35
        exact ((Cr.plain_mem hp).2 35 (by simp)).2.2 rfl
    · simp at h35

theorem ba_list (s : ByteArray) : (⟨s.data.toList.toArray⟩ : ByteArray) = s := by
  apply ByteArray.ext; simp

theorem parse_textL (r : Ref) (L1 L2 : List UInt8) (hc : r.check = 0) (h1 : Cr.Ltrs L1 r.col.toNat) (h2 : Cr.Ltrs L2 r.col2.toNat) : parseF (r.textL L1 L2) = (r, 0) := by
  obtain ⟨hk0, hk4, hn, hmm, hro, hco, hro2, hco2, hord⟩ := Ref.check_ok hc
  have hlen := Cr.nameE_len hn
  have hsl := Cr.sheetS_len hlen
  obtain ⟨f0, f2, f3, f4⟩ := Ref.meaning_fix hmm
  have ho := Ref.ordered_of hord
  have l1 := Cr.dollar_len r.ac L1
  have l2 := Cr.dollar_len r.ac2 L2
  have l3 := Cr.rowS_len r.row r.ar hro.1 hro.2
  have l4 := Cr.rowS_len r.row2 r.ar2 hro2.1 hro2.2
  have e1 := Cr.rowS_eq hro.1 r.ar
  have e2 := Cr.rowS_eq hro2.1 r.ar2
  have b1 := h1.len
  have b2 := h2.len
  have n1 : r.row.toNat < 1073741824 := by omega
  have n2 : r.row2.toNat < 1073741824 := by omega
  have m1 : r.col.toNat < 1073741824 := by omega
  have m2 : r.col2.toNat < 1073741824 := by omega
  have p1 := Cr.plc_col h1 r.ac
  have p2 := Cr.plc_col h2 r.ac2
  have q1 := Cr.plc_row r.row.toNat r.ar
  have q2 := Cr.plc_row r.row2.toNat r.ar2
  rw [← e1] at q1
  rw [← e2] at q2
  have sheet_eq := ba_list r.sheet
  have c1 : ((r.col.toNat : Nat) : Int) = r.col := by omega
  have c2 : ((r.col2.toNat : Nat) : Int) = r.col2 := by omega
  have c3 : ((r.row.toNat : Nat) : Int) = r.row := by omega
  have c4 : ((r.row2.toNat : Nat) : Int) = r.row2 := by omega
  by_cases k0 : r.kind = 0
  · obtain ⟨z1, z2, z3, z4⟩ := f0 k0
    have ht : r.textL L1 L2 = Cr.sheetS r.sheet.data.toList ++ (Cr.dollar r.ac L1 ++ Cr.rowS r.row r.ar) := by
      unfold Ref.textL; rw [if_pos k0, List.append_assoc]
    have hplc : ∀ c ∈ Cr.dollar r.ac L1 ++ Cr.rowS r.row r.ar, Cr.plc c = true := fun c hc => (List.mem_append.1 hc).elim (p1 c) (q1 c)
    have hne : Cr.dollar r.ac L1 ++ Cr.rowS r.row r.ar ≠ [] := by
      intro h
      have := h1.ne
      cases hx : r.ac <;> simp [hx, Cr.dollar] at h
      exact this h.1
    have hcut := Cr.cut_none (x := 58) fun c hc => (Cr.plc_ne (hplc c hc)).2.2.1
    have hval := Cr.values_of (.inr h1) m1 n1 (.inr rfl) r.ac r.ar
    have hp := Cr.place_cell h1 n1 r.ac r.ar
    rw [← e1] at hp
    have hH : halves (r.textL L1 L2) = ⟨r.sheet.data.toList, true, false, ⟨L1, Lib.decDigits (r.row.toNat + 1), r.ac, r.ar⟩, true, ⟨L1, Lib.decDigits (r.row.toNat + 1), r.ac, r.ar⟩, true⟩ := by
      unfold halves
      rw [ht, Cr.sheet_text hne fun c hc => .inl (hplc c hc)]
      dsimp only
      rw [hcut]
      dsimp only
      rw [hp]
      rfl
    have hd := (Cr.num_facts r.row.toNat n1).2.2.1
    refine parse_core (by rw [ht]; simp; omega) (by rw [ht]; exact head_no35 fun c hc => .inl (hplc c hc)) hH ?_ (by rw [hval]) (by rw [hval]) ?_ ho hc
    · simp [Halves.bad, Halves.whole, h1.ne, hd]
    · unfold Halves.ref Halves.kind
      dsimp only
      rw [hval, sheet_eq]
      dsimp only
      obtain ⟨sh, k, ro, co, ro2, co2, ar, ac, ar2, ac2⟩ := r
      dsimp only at *
      subst k0 z1 z2 z3 z4
      simp [c1, c3]
  by_cases k1 : r.kind = 1
  · have ht : r.textL L1 L2 = Cr.sheetS r.sheet.data.toList ++ ((Cr.dollar r.ac L1 ++ Cr.rowS r.row r.ar) ++ 58 :: (Cr.dollar r.ac2 L2 ++ Cr.rowS r.row2 r.ar2)) := by
      unfold Ref.textL; rw [if_neg k0, if_pos k1]; simp
    have hplc : ∀ c ∈ Cr.dollar r.ac L1 ++ Cr.rowS r.row r.ar, Cr.plc c = true := fun c hc => (List.mem_append.1 hc).elim (p1 c) (q1 c)
    have hplc2 : ∀ c ∈ Cr.dollar r.ac2 L2 ++ Cr.rowS r.row2 r.ar2, Cr.plc c = true := fun c hc => (List.mem_append.1 hc).elim (p2 c) (q2 c)
    have hall : ∀ c ∈ (Cr.dollar r.ac L1 ++ Cr.rowS r.row r.ar) ++ 58 :: (Cr.dollar r.ac2 L2 ++ Cr.rowS r.row2 r.ar2), Cr.plc c = true ∨ c = 58 := fun c hc => by
      rcases List.mem_append.1 hc with h | h
      · exact .inl (hplc c h)
      · rcases List.mem_cons.1 h with h | h
        · exact .inr h
        · exact .inl (hplc2 c h)
    have hcut := Cr.cut_at (x := 58) (m := Cr.dollar r.ac2 L2 ++ Cr.rowS r.row2 r.ar2) fun c hc => (Cr.plc_ne (hplc c hc)).2.2.1
    have hval := Cr.values_of (.inr h1) m1 n1 (.inr rfl) r.ac r.ar
    have hval2 := Cr.values_of (.inr h2) m2 n2 (.inr rfl) r.ac2 r.ar2
    have hp := Cr.place_cell h1 n1 r.ac r.ar
    have hp2 := Cr.place_cell h2 n2 r.ac2 r.ar2
    rw [← e1] at hp
    rw [← e2] at hp2
    have hH : halves (r.textL L1 L2) = ⟨r.sheet.data.toList, true, true, ⟨L1, Lib.decDigits (r.row.toNat + 1), r.ac, r.ar⟩, true, ⟨L2, Lib.decDigits (r.row2.toNat + 1), r.ac2, r.ar2⟩, true⟩ := by
      unfold halves
      rw [ht, Cr.sheet_text (by simp) hall]
      dsimp only
      rw [hcut]
      dsimp only
      rw [hp, hp2]
      rfl
    have hd := (Cr.num_facts r.row.toNat n1).2.2.1
    have hd2 := (Cr.num_facts r.row2.toNat n2).2.2.1
    refine parse_core (by rw [ht]; simp; omega) (by rw [ht]; exact head_no35 hall) hH ?_ (by rw [hval]) (by rw [hval2]) ?_ ho hc
    · simp [Halves.bad, h1.ne, h2.ne, hd, hd2]
    · unfold Halves.ref Halves.kind
      dsimp only
      rw [hval, hval2, sheet_eq]
      obtain ⟨sh, k, ro, co, ro2, co2, ar, ac, ar2, ac2⟩ := r
      dsimp only at *
      subst k1
      simp [Halves.whole, h1.ne, hd, c1, c2, c3, c4]
  by_cases k2 : r.kind = 2
  · obtain ⟨z1, z2, z3, z4⟩ := f2 k2
    have ht : r.textL L1 L2 = Cr.sheetS r.sheet.data.toList ++ (Cr.rowS r.row r.ar ++ 58 :: Cr.rowS r.row2 r.ar2) := by
      unfold Ref.textL; rw [if_neg k0, if_neg k1, if_pos k2]; simp
    have hall : ∀ c ∈ Cr.rowS r.row r.ar ++ 58 :: Cr.rowS r.row2 r.ar2, Cr.plc c = true ∨ c = 58 := fun c hc => by
      rcases List.mem_append.1 hc with h | h
      · exact .inl (q1 c h)
      · rcases List.mem_cons.1 h with h | h
        · exact .inr h
        · exact .inl (q2 c h)
    have hcut := Cr.cut_at (x := 58) (m := Cr.rowS r.row2 r.ar2) fun c hc => (Cr.plc_ne (q1 c hc)).2.2.1
    have hval := Cr.values_of (L := []) (m := 0) (.inl ⟨rfl, rfl⟩) (by omega) n1 (.inr rfl) false r.ar
    have hval2 := Cr.values_of (L := []) (m := 0) (.inl ⟨rfl, rfl⟩) (by omega) n2 (.inr rfl) false r.ar2
    have hp := Cr.place_row n1 r.ar
    have hp2 := Cr.place_row n2 r.ar2
    rw [← e1] at hp
    rw [← e2] at hp2
    have hH : halves (r.textL L1 L2) = ⟨r.sheet.data.toList, true, true, ⟨[], Lib.decDigits (r.row.toNat + 1), false, r.ar⟩, true, ⟨[], Lib.decDigits (r.row2.toNat + 1), false, r.ar2⟩, true⟩ := by
      unfold halves
      rw [ht, Cr.sheet_text (by simp) hall]
      dsimp only
      rw [hcut]
      dsimp only
      rw [hp, hp2]
      rfl
    have hd := (Cr.num_facts r.row.toNat n1).2.2.1
    have hd2 := (Cr.num_facts r.row2.toNat n2).2.2.1
    refine parse_core (by rw [ht]; simp; omega) (by rw [ht]; exact head_no35 hall) hH ?_ (by rw [hval]) (by rw [hval2]) ?_ ho hc
    · simp [Halves.bad, hd, hd2]
    · unfold Halves.ref Halves.kind
      dsimp only
      rw [hval, hval2, sheet_eq]
      obtain ⟨sh, k, ro, co, ro2, co2, ar, ac, ar2, ac2⟩ := r
      dsimp only at *
      subst k2 z1 z2 z3 z4
      simp [Halves.whole, hd, c3, c4]
  by_cases k3 : r.kind = 3
  · obtain ⟨z1, z2, z3, z4⟩ := f3 k3
    have ht : r.textL L1 L2 = Cr.sheetS r.sheet.data.toList ++ (Cr.dollar r.ac L1 ++ 58 :: Cr.dollar r.ac2 L2) := by
      unfold Ref.textL; rw [if_neg k0, if_neg k1, if_neg k2, if_pos k3]; simp
    have hall : ∀ c ∈ Cr.dollar r.ac L1 ++ 58 :: Cr.dollar r.ac2 L2, Cr.plc c = true ∨ c = 58 := fun c hc => by
      rcases List.mem_append.1 hc with h | h
      · exact .inl (p1 c h)
      · rcases List.mem_cons.1 h with h | h
        · exact .inr h
        · exact .inl (p2 c h)
    have hcut := Cr.cut_at (x := 58) (m := Cr.dollar r.ac2 L2) fun c hc => (Cr.plc_ne (p1 c hc)).2.2.1
    have hval := Cr.values_of (n := 0) (num := []) (.inr h1) m1 (by omega) (.inl ⟨rfl, rfl⟩) r.ac false
    have hval2 := Cr.values_of (n := 0) (num := []) (.inr h2) m2 (by omega) (.inl ⟨rfl, rfl⟩) r.ac2 false
    have hp := Cr.place_col h1 r.ac
    have hp2 := Cr.place_col h2 r.ac2
    have hH : halves (r.textL L1 L2) = ⟨r.sheet.data.toList, true, true, ⟨L1, [], r.ac, false⟩, true, ⟨L2, [], r.ac2, false⟩, true⟩ := by
      unfold halves
      rw [ht, Cr.sheet_text (by simp) hall]
      dsimp only
      rw [hcut]
      dsimp only
      rw [hp, hp2]
      rfl
    refine parse_core (by rw [ht]; simp; omega) (by rw [ht]; exact head_no35 hall) hH ?_ (by rw [hval]) (by rw [hval2]) ?_ ho hc
    · simp [Halves.bad, h1.ne, h2.ne]
    · unfold Halves.ref Halves.kind
      dsimp only
      rw [hval, hval2, sheet_eq]
      obtain ⟨sh, k, ro, co, ro2, co2, ar, ac, ar2, ac2⟩ := r
      dsimp only at *
      subst k3 z1 z2 z3 z4
      simp [Halves.whole, c1, c2]
  · have hk : r.kind = 4 := by omega
    have hb := f4 hk
    have ht : r.textL L1 L2 = [35, 82, 69, 70, 33] := by
      unfold Ref.textL; rw [if_neg k0, if_neg k1, if_neg k2, if_neg k3]
    rw [ht, hb]
    rfl

theorem parse_text (r : Ref) (hc : r.check = 0) : parseF r.text = (r, 0) := by
  obtain ⟨_, _, _, _, _, hco, _, hco2, _⟩ := Ref.check_ok hc
  rw [Ref.text_eq]
  exact parse_textL r _ _ hc (Cr.ltrs_lt _ (by omega)) (Cr.ltrs_lt _ (by omega))

/-! ### Small letters -/
theorem low_ltr {c : UInt8} (h : Cr.ltr c = true) : Cr.ltr (Lib.lowerB c) = true ∧ ((Lib.lowerB c).toNat &&& 31) = (c.toNat &&& 31) := by
  have key : ∀ k : Fin 256, Cr.ltr (UInt8.ofNat k.val) = true → Cr.ltr (Lib.lowerB (UInt8.ofNat k.val)) = true ∧ ((Lib.lowerB (UInt8.ofNat k.val)).toNat &&& 31) = ((UInt8.ofNat k.val).toNat &&& 31) := by decide +kernel
  have := key ⟨c.toNat, c.toNat_lt⟩
  rw [show UInt8.ofNat (⟨c.toNat, c.toNat_lt⟩ : Fin 256).val = c by simp] at this
  exact this h
theorem low_dgt {c : UInt8} (h : Cr.dgt c = true) : Lib.lowerB c = c := by
  have key : ∀ k : Fin 256, Cr.dgt (UInt8.ofNat k.val) = true → Lib.lowerB (UInt8.ofNat k.val) = UInt8.ofNat k.val := by decide +kernel
  have := key ⟨c.toNat, c.toNat_lt⟩
  rw [show UInt8.ofNat (⟨c.toNat, c.toNat_lt⟩ : Fin 256).val = c by simp] at this
  exact this h
theorem colv_low : ∀ (l : List UInt8) (n : Nat), (∀ c ∈ l, Cr.ltr c = true) → (l.map Lib.lowerB).foldl (fun n c => 26 * n + (c.toNat &&& 31)) n = l.foldl (fun n c => 26 * n + (c.toNat &&& 31)) n
  | [], _, _ => rfl
  | c :: t, n, h => by
    rw [List.map_cons, List.foldl_cons, List.foldl_cons, (low_ltr (h c (by simp))).2]
    exact colv_low t _ fun x hx => h x (by simp [hx])
theorem Cr.Ltrs.low {L : List UInt8} {n : Nat} (h : Cr.Ltrs L n) : Cr.Ltrs (L.map Lib.lowerB) n :=
  ⟨fun c hc => by
    obtain ⟨x, hx, rfl⟩ := List.mem_map.1 hc
    exact (low_ltr (h.all x hx)).1,
   by unfold Cr.colv; rw [colv_low _ _ h.all]; exact h.val,
   by simpa using h.len, by simpa using h.ne⟩
theorem map_dollar (b : Bool) (l : List UInt8) : (Cr.dollar b l).map Lib.lowerB = Cr.dollar b (l.map Lib.lowerB) := by
  cases b <;> rfl
theorem map_row {n : Int} (h : 0 ≤ n) (b : Bool) : (Cr.rowS n b).map Lib.lowerB = Cr.rowS n b := by
  rw [Cr.rowS_eq h, map_dollar]
  congr 1
  exact (List.map_congr_left fun c hc => low_dgt (Cr.dec_dgt _ c hc)).trans (List.map_id _)
theorem text_low (r : Ref) (hc : r.check = 0) (hs : r.sheet.data.toList = []) (hk : r.kind ≠ 4) : Lib.toLowerA r.text = r.textL ((Cr.lt (r.col.toNat + 1)).map Lib.lowerB) ((Cr.lt (r.col2.toNat + 1)).map Lib.lowerB) := by
  obtain ⟨hk0, hk4, hn, hmm, hro, hco, hro2, hco2, hord⟩ := Ref.check_ok hc
  have e1 := map_row hro.1 r.ar
  have e2 := map_row hro2.1 r.ar2
  have hS : Cr.sheetS ([] : List UInt8) = [] := rfl
  unfold Lib.toLowerA Ref.text Ref.textL Cr.colS
  rw [hs, hS]
  by_cases k0 : r.kind = 0
  · simp [if_pos k0, map_dollar, e1]
  by_cases k1 : r.kind = 1
  · simp [k1, map_dollar, e1, e2]; rfl
  by_cases k2 : r.kind = 2
  · simp [k2, e1, e2]; rfl
  by_cases k3 : r.kind = 3
  · simp [k3, map_dollar]; rfl
  · omega
theorem parse_low (r : Ref) (hc : r.check = 0) (hs : r.sheet.data.toList = []) (hk : r.kind ≠ 4) : parseF (Lib.toLowerA r.text) = (r, 0) := by
  obtain ⟨_, _, _, _, _, hco, _, hco2, _⟩ := Ref.check_ok hc
  rw [text_low r hc hs hk]
  exact parse_textL r _ _ hc (Cr.ltrs_lt _ (by omega)).low (Cr.ltrs_lt _ (by omega)).low

/-- A text of a reference is ASCII. -/
theorem text_ascii (r : Ref) (hc : r.check = 0) : ∀ c ∈ r.text, c.toNat < 128 := by
  obtain ⟨hk0, hk4, hn, hmm, hro, hco, hro2, hco2, hord⟩ := Ref.check_ok hc
  have plcA : ∀ c : UInt8, Cr.plc c = true → c.toNat < 128 := by
    intro c
    have key : ∀ k : Fin 256, Cr.plc (UInt8.ofNat k.val) = true → (UInt8.ofNat k.val).toNat < 128 := by decide +kernel
    have := key ⟨c.toNat, c.toNat_lt⟩
    rw [show UInt8.ofNat (⟨c.toNat, c.toNat_lt⟩ : Fin 256).val = c by simp] at this
    exact this
  have shA : ∀ c ∈ r.sheet.data.toList, c.toNat < 128 := by
    unfold Cr.nameE at hn
    split at hn
    · cases hn
    split at hn
    · rename_i _ hall
      intro c hcm
      have := List.all_eq_true.1 hall c hcm
      unfold Cr.nameI at this
      simp only [Bool.and_eq_true, decide_eq_true_eq] at this
      omega
    · cases hn
  have dblA : ∀ c ∈ Cr.dbl r.sheet.data.toList, c.toNat < 128 := by
    intro c hcm
    obtain ⟨b, hb, hcb⟩ := List.mem_flatMap.1 hcm
    split at hcb
    · simp at hcb; subst hcb; decide
    · simp at hcb; subst hcb; exact shA c hb
  have sA : ∀ c ∈ Cr.sheetS r.sheet.data.toList, c.toNat < 128 := by
    intro c hcm
    unfold Cr.sheetS at hcm
    split at hcm
    · cases hcm
    split at hcm
    · rcases List.mem_append.1 hcm with h | h
      · exact shA c h
      · simp at h; subst h; decide
    · simp at hcm
      rcases hcm with h | h | h | h
      · subst h; decide
      · exact dblA c h
      · subst h; decide
      · subst h; decide
  have m1 := Cr.plc_col (Cr.ltrs_lt r.col.toNat (by omega)) r.ac
  have m2 := Cr.plc_col (Cr.ltrs_lt r.col2.toNat (by omega)) r.ac2
  have m3 := Cr.plc_row r.row.toNat r.ar
  have m4 := Cr.plc_row r.row2.toNat r.ar2
  rw [← Cr.rowS_eq hro.1] at m3
  rw [← Cr.rowS_eq hro2.1] at m4
  intro c hcm
  unfold Ref.text at hcm
  split at hcm
  · rcases List.mem_append.1 hcm with h | h
    · rcases List.mem_append.1 h with h | h
      · exact sA c h
      · exact plcA c (m1 c h)
    · exact plcA c (m3 c h)
  split at hcm
  · simp only [List.mem_append, List.mem_singleton] at hcm
    rcases hcm with ((((h | h) | h) | h) | h) | h
    · exact sA c h
    · exact plcA c (m1 c h)
    · exact plcA c (m3 c h)
    · subst h; decide
    · exact plcA c (m2 c h)
    · exact plcA c (m4 c h)
  split at hcm
  · simp only [List.mem_append, List.mem_singleton] at hcm
    rcases hcm with ((h | h) | h) | h
    · exact sA c h
    · exact plcA c (m3 c h)
    · subst h; decide
    · exact plcA c (m4 c h)
  split at hcm
  · simp only [List.mem_append, List.mem_singleton] at hcm
    rcases hcm with ((h | h) | h) | h
    · exact sA c h
    · exact plcA c (m1 c h)
    · subst h; decide
    · exact plcA c (m2 c h)
  · have : ∀ c ∈ ([35, 82, 69, 70, 33] : List UInt8), c.toNat < 128 := by decide
    exact this c hcm
end Go.Proofs.YtdepdihdjghicaaDoor
