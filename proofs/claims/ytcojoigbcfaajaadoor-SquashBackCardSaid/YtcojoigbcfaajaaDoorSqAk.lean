/- Plain: what Pack answers, Unpack turns back. -/
import Derived.Test.YtcojoigbcfaajaaDoorSqAj
import Derived.Test.YtcojoigbcfaajaaDoorSqI
namespace Go.Proofs.YtcojoigbcfaajaaDoor
open Go.RowKit
namespace Sq
theorem toB_list (l : List Nat) : (toB l).data.toList = l.map UInt8.ofNat := by unfold toB; simp
theorem toB_drop (l : List Nat) (k : Nat) : (toB l).extract k (toB l).size = toB (l.drop k) := by
  have h : ∀ x y : ByteArray, x.data = y.data → x = y := fun x y h => by cases x; cases y; cases h; rfl
  apply h
  apply Array.ext'
  rw [ByteArray.data_extract, Array.toList_extract, toB_list, toB_list]
  rw [List.extract_eq_take_drop, List.map_drop]
  refine List.take_of_length_le ?_
  rw [List.length_drop, List.length_map, toB_size]
  exact Nat.le_refl _
theorem toB_getD (l : List Nat) (hB : Byt l) (i : Nat) : ((toB l).data.toList.getD i 0).toNat = l.getD i 0 := by
  rw [toB_list]
  by_cases h : i < l.length
  · have h2 : i < (l.map UInt8.ofNat).length := by simpa using h
    rw [List.getD_eq_getElem?_getD, List.getElem?_eq_getElem h2, List.getD_eq_getElem?_getD, List.getElem?_eq_getElem h]
    have := hB _ (List.getElem_mem h)
    simp
    omega
  · rw [List.getD_eq_getElem?_getD, List.getElem?_eq_none (by simpa using h), List.getD_eq_getElem?_getD, List.getElem?_eq_none (by omega)]
    rfl
theorem bitN_toB (l : List Nat) (hB : Byt l) (i : Nat) : bitN (toB l) i = bitB l i := by
  unfold bitN bitB
  rw [toB_getD l hB]
theorem bitB_drop (l : List Nat) (k i : Nat) : bitB (l.drop k) i = bitB l (i + 8 * k) := by
  unfold bitB
  rw [List.getD_eq_getElem?_getD, List.getElem?_drop, ← List.getD_eq_getElem?_getD, show (i + 8 * k) / 8 = k + i / 8 by omega, show (i + 8 * k) % 8 = i % 8 by omega]
theorem Byt.drop {l : List Nat} (h : Byt l) (k : Nat) : Byt (l.drop k) := fun x hx => h x (List.mem_of_mem_drop hx)
theorem hdG_ok (L : Nat → Nat) : ∀ i, WOk (hdG L i) ∧ Byt (hdG L i).1 ∧ pos (hdG L i) = 4 * i
  | 0 => ⟨WOk0, Byt.nil, rfl⟩
  | i + 1 => by
    have ih := hdG_ok L i
    have h1 := putF_ok (L i) 4 (hdG L i) ih.1 ih.2.1
    have h2 := (putF_bits (L i) 4 (hdG L i) ih.1 ih.2.1).1
    rw [hdG]
    exact ⟨h1.1, h1.2, by omega⟩
theorem hdG_before (L : Nat → Nat) {r : ByteArray} {sft : Nat} (i : Nat) : ∀ k, Has r sft (hdG L (i + k)) → Has r sft (hdG L i)
  | 0, h => h
  | k + 1, h => by
    have ok := hdG_ok L (i + k)
    rw [← Nat.add_assoc, hdG] at h
    exact hdG_before L i k (h.before ok.1 ok.2.1)
theorem lenF_num (t : ByteArray) (i : Nat) : lenF t i = numN t (4 * i) 4 := by
  have hv := (t.data.toList.getD (i / 2) 0).toNat_lt
  unfold lenF
  simp only [numN, bitN]
  rw [show (4 * i + 0) / 8 = i / 2 by omega, show (4 * i + 1) / 8 = i / 2 by omega, show (4 * i + 2) / 8 = i / 2 by omega, show (4 * i + 3) / 8 = i / 2 by omega]
  obtain ⟨v, hve⟩ : ∃ v, v = (t.data.toList.getD (i / 2) 0).toNat := ⟨_, rfl⟩
  rw [← hve] at hv ⊢
  rcases (show i % 2 = 0 ∨ i % 2 = 1 by omega) with h | h
  · rw [show (4 * i + 0) % 8 = 0 by omega, show (4 * i + 1) % 8 = 1 by omega, show (4 * i + 2) % 8 = 2 by omega, show (4 * i + 3) % 8 = 3 by omega, h]
    omega
  · rw [show (4 * i + 0) % 8 = 4 by omega, show (4 * i + 1) % 8 = 5 by omega, show (4 * i + 2) % 8 = 6 by omega, show (4 * i + 3) % 8 = 7 by omega, h]
    omega
theorem padG_ok (r : ByteArray) : ∀ k p, (∀ i, p ≤ i → i < 8 * r.size → bitN r i = 0) → p ≤ 8 * r.size → 8 * r.size ≤ p + k → 8 * r.size < p + 8 → padG r k p = (0, 8 * r.size)
  | 0, p, _, h1, h2, _ => by rw [padG, show p = 8 * r.size by omega]
  | k + 1, p, h, h1, h2, h3 => by
    rw [padG]
    by_cases h8 : p % 8 = 0
    · rw [if_pos h8, show p = 8 * r.size by omega]
    · rw [if_neg h8, if_pos (h p (Nat.le_refl _) (by omega))]
      exact padG_ok r k (p + 1) (fun i hi => h i (by omega)) (by omega) (by omega) (by omega)
theorem toB_bts (s : ByteArray) : toB (bts s) = s := by
  have := toB_app [] s
  rw [List.nil_append] at this
  unfold bts
  rw [this]
  have h : ∀ x y : ByteArray, x.data = y.data → x = y := fun x y h => by cases x; cases y; cases h; rfl
  apply h
  rw [ByteArray.data_append]
  show (([] : List Nat).map UInt8.ofNat).toArray ++ s.data = s.data
  simp
/-- The packed form is decoded. -/
theorem body_back (s : ByteArray) (h0 : 0 < s.size) : unpkT s.size 1 (toB (bodF (lgF (tokF s)) (tokF s))) = (0, s) := by
  have hok := tokF_ok s
  have hp := tokF_pos s h0
  have hg := lg_good (tokF s) hp (fun t ht => (hok.1 t ht).1)
  have hr := tokF_runs s
  obtain ⟨T, hT⟩ : ∃ T, T = tokF s := ⟨_, rfl⟩
  rw [← hT] at hg hr ⊢
  obtain ⟨L, hL⟩ : ∃ L, L = lgF T := ⟨_, rfl⟩
  rw [← hL] at hg ⊢
  have hsym : ∀ t ∈ T, 1 ≤ L t.1 ∧ L t.1 ≤ 15 := fun t ht => ⟨hg.2.2 t ht, hg.2.1 _⟩
  have h272 := hdG_ok L 272
  have hH : ∀ r sft, Has r sft (hdG L 272) → ∀ i, i < 272 → Has r sft (putF (L i) 4 (hdG L i)) := fun r sft h i hi => by
    have := hdG_before L (i + 1) (272 - (i + 1)) (by rw [show i + 1 + (272 - (i + 1)) = 272 by omega]; exact h)
    rw [hdG] at this
    exact this
  have hokf := foldl_ok L T (hdG L 272) h272.1 h272.2.1
  unfold bodF
  obtain ⟨s0, hs0⟩ : ∃ s0, s0 = hdG L 272 := ⟨_, rfl⟩
  rw [← hs0] at h272 hH hokf ⊢
  obtain ⟨sf, hsf⟩ : ∃ sf, sf = T.foldl (ptT L) s0 := ⟨_, rfl⟩
  rw [← hsf] at hokf ⊢
  obtain ⟨t, ht⟩ : ∃ t, t = toB sf.1 := ⟨_, rfl⟩
  rw [← ht]
  have hts : t.size = sf.1.length := by rw [ht, toB_size]
  have hbt : Has t 0 (T.foldl (ptT L) s0) := fun i _ _ => by rw [Nat.sub_zero, ht, bitN_toB _ hokf.2, ← hsf]
  have hbf := foldl_before L T s0 h272.1 h272.2.1 hbt
  rw [← hsf] at hbf
  have hfree := hokf.1.1
  have hlenf := hokf.1.len
  have hposf : pos sf = 8 * sf.1.length - sf.2 := rfl
  have hlen : 136 ≤ t.size := by omega
  have hL15 : ∀ i, L i < 16 := fun i => by have := hg.2.1 i; omega
  have hlf : ∀ i, i < 272 → lenF t i = L i := fun i hi => by
    have ok := hdG_ok L i
    have := (hH t 0 hbf.1 i hi).num ok.1 ok.2.1 (Nat.zero_le _) (hL15 i)
    rw [ok.2.2, Nat.sub_zero] at this
    rw [lenF_num, this]
  obtain ⟨r, hr2⟩ : ∃ r, r = t.extract 136 t.size := ⟨_, rfl⟩
  have hrt : r = toB (sf.1.drop 136) := by rw [hr2, ht, toB_drop]
  have hrs : r.size = sf.1.length - 136 := by rw [hrt, toB_size, List.length_drop]
  have hbr : ∀ i, 1088 ≤ i → bitN r (i - 1088) = bitB sf.1 i := fun i hi => by
    rw [hrt, bitN_toB _ (hokf.2.drop 136), bitB_drop, show i - 1088 + 8 * 136 = i by omega]
  have hdec := decode L hg.1 r s.size 1088 hr s0 s.size h272.1 h272.2.1 (by omega) (fun i h1 _ => by rw [← hsf]; exact hbr i h1) (by rw [← hsf]; omega) hsym (bts_len s) (by simp)
  rw [h272.2.2, ← hsf, Nat.sub_self] at hdec
  have hpad := padG_ok r 8 (pos sf - 1088) (fun i h1 h2 => by
    have := hbr (i + 1088) (by omega)
    rw [Nat.add_sub_cancel] at this
    rw [this]
    exact tail_zero sf hokf.1 _ (by omega) (by omega)) (by omega) (by omega) (by omega)
  unfold unpkT
  rw [if_neg (by decide), if_neg (by decide), if_neg (by omega), smT_congr hlf, if_pos hg.1, ← hr2, unpF_congr hlf]
  have e : unpF L r s.size 0 = (0, bts s) := by
    unfold unpF
    rw [hdec]
    dsimp only
    rw [if_pos rfl, hpad]
    dsimp only
    rw [if_pos rfl, if_neg (Nat.lt_irrefl _)]
  rw [e]
  show (0, toB (bts s)) = (0, s)
  rw [toB_bts]
/-- What was packed is unpacked. -/
theorem pack_back (s : ByteArray) (hs : s.size ≤ 1073741824) : unpkF (toB (packF s)) = (0, s) := by
  have key : ∀ (m : Nat) (b : List Nat), m < 256 → Byt b → unpkF (toB (hd4 s.size ++ [m] ++ b)) = unpkT s.size m (toB b) := fun m b hm hb => by
    have hB : Byt (hd4 s.size ++ [m] ++ b) := fun x hx => by
      rcases List.mem_append.1 hx with hx | hx
      · simp only [hd4, List.mem_append, List.mem_cons, List.not_mem_nil, or_false] at hx
        omega
      · exact hb x hx
    have hsz : (toB (hd4 s.size ++ [m] ++ b)).size = 5 + b.length := by
      rw [toB_size, List.length_append, List.length_append]
      rfl
    have hh : headN (toB (hd4 s.size ++ [m] ++ b)) = s.size := by
      unfold headN
      rw [toB_getD _ hB, toB_getD _ hB, toB_getD _ hB, toB_getD _ hB]
      show s.size / 16777216 % 256 * 16777216 + s.size / 65536 % 256 * 65536 + s.size / 256 % 256 * 256 + s.size % 256 = s.size
      omega
    have h4 : ((toB (hd4 s.size ++ [m] ++ b)).data.toList.getD 4 0).toNat = m := by
      rw [toB_getD _ hB]
      rfl
    unfold unpkF
    rw [if_neg (by omega), hh, h4, toB_drop]
    rfl
  unfold packF
  by_cases h : 0 < s.size ∧ (bodF (lgF (tokF s)) (tokF s)).length < s.size
  · have hby : Byt (bodF (lgF (tokF s)) (tokF s)) := (foldl_ok _ _ _ (hdG_ok _ 272).1 (hdG_ok _ 272).2.1).2
    rw [if_pos h, key 1 _ (by decide) hby]
    exact body_back s h.1
  · rw [if_neg h, key 0 _ (by decide) (fun x hx => by
      obtain ⟨y, _, rfl⟩ := List.mem_map.1 hx
      exact y.toNat_lt)]
    show unpkT s.size 0 (toB (bts s)) = (0, s)
    rw [toB_bts]
    unfold unpkT
    rw [if_neg (by decide), if_pos rfl, if_neg (Nat.lt_irrefl _), if_neg (Nat.lt_irrefl _)]
end Sq
end Go.Proofs.YtcojoigbcfaajaaDoor
