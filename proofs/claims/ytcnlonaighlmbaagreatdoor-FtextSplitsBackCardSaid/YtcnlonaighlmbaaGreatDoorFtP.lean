/- ftext, plain: a text as its characters. -/
import Derived.Test.YtcnlonaighlmbaaGreatDoorVaC
import Derived.Lib.MapLaws
import Derived.Lib.RuneCount
set_option linter.unusedSimpArgs false
set_option linter.unusedVariables false
namespace Go.Proofs.YtcnlonaighlmbaaGreatDoor
open Go.RowKit

/-- A character: it decodes to itself, whatever follows, and may stand in a text. -/
def ChOk (c : List UInt8) : Prop := ∃ r : Nat, (∀ rest, Lib.decodeL (c ++ rest) = (r, c.length)) ∧ 0 < c.length ∧ chB (r : Int) = true ∧ ¬ (r = 65533 ∧ c.length = 1)
/-- Characters. -/
def ChsOk (cs : List (List UInt8)) : Prop := ∀ c ∈ cs, ChOk c
/-- The text of characters. -/
def tx (cs : List (List UInt8)) : ByteArray := ⟨cs.flatten.toArray⟩
theorem tx_data (cs : List (List UInt8)) : (tx cs).data.toList = cs.flatten := by simp [tx]
theorem tx_size (cs : List (List UInt8)) : (tx cs).size = cs.flatten.length := by simp [tx, ByteArray.size]
theorem ba_eta (s : ByteArray) : (⟨s.data.toList.toArray⟩ : ByteArray) = s := by simp
theorem tx_of {s : ByteArray} {cs : List (List UInt8)} (h : s.data.toList = cs.flatten) : s = tx cs := by
  rw [tx, ← h, ba_eta]
theorem decGo_L (s : ByteArray) (h : s.size ≠ 0) : Lib.decodeGo s = Lib.decodeL s.data.toList := by
  unfold Lib.decodeGo Lib.decodeL
  rw [if_neg h, ba_eta]
theorem dec_drop (s : ByteArray) (p : Nat) : Utf8.decode s p = Lib.decodeL (s.data.toList.drop p) := by
  rw [Lib.decodeL_N, Lib.decode_at, Lib.getD_dropU, Lib.getD_dropU, Lib.getD_dropU, Lib.getD_dropU, Lib.getD_get!', Lib.getD_get!', Lib.getD_get!', Lib.getD_get!', List.length_drop]
  rfl
set_option maxRecDepth 100000 in
theorem dec_long (l : List UInt8) (hk : (Lib.decodeL l).2 ≤ l.length) (hv : ¬ ((Lib.decodeL l).1 = 65533 ∧ (Lib.decodeL l).2 = 1)) (rest : List UInt8) : Lib.decodeL (l.take (Lib.decodeL l).2 ++ rest) = Lib.decodeL l := by
  have hg : ∀ j, j < (Lib.decodeL l).2 → (l.take (Lib.decodeL l).2 ++ rest).getD j 0 = l.getD j 0 := fun j hj => by
    simp only [List.getD]
    rw [List.getElem?_append_left (by rw [List.length_take]; omega), List.getElem?_take, if_pos hj]
  have hn : (l.take (Lib.decodeL l).2 ++ rest).length = (Lib.decodeL l).2 + rest.length := by
    rw [List.length_append, List.length_take]
    omega
  have h0 := Lib.decodeL_width l
  rw [Lib.decodeL_N (l.take (Lib.decodeL l).2 ++ rest), hg 0 (by omega), hn]
  have h1 := Lib.decodeL_N l
  generalize Lib.decodeL l = d at *
  generalize l.length = n at *
  generalize (l.getD 0 0).toNat = b0 at *
  have g1 : 1 < d.2 → (l.take d.2 ++ rest).getD 1 0 = l.getD 1 0 := fun h => hg 1 h
  have g2 : 2 < d.2 → (l.take d.2 ++ rest).getD 2 0 = l.getD 2 0 := fun h => hg 2 h
  have g3 : 3 < d.2 → (l.take d.2 ++ rest).getD 3 0 = l.getD 3 0 := fun h => hg 3 h
  rcases Lib.decodeN_shape n b0 (l.getD 1 0).toNat (l.getD 2 0).toNat (l.getD 3 0).toNat with ⟨c, e⟩ | ⟨c1, c2, c3, cv, e⟩ | ⟨c1, c2, c3, c4, cv, cs, e⟩ | ⟨c1, c2, c3, c4, c5, cv, cw, e⟩ | e
  · rw [Lib.decodeN_ascii _ _ _ _ _ c, h1, e]
  · rw [e] at h1
    subst h1
    rw [g1 (by dsimp only; omega)]
    unfold Lib.decodeN
    rw [if_neg (by omega), if_pos ⟨c1, by dsimp only; omega, c3⟩, if_pos (by omega)]
  · rw [e] at h1
    subst h1
    rw [g1 (by dsimp only; omega), g2 (by dsimp only; omega)]
    unfold Lib.decodeN
    rw [if_neg (by omega), if_neg (by omega), if_pos ⟨c1, ⟨by dsimp only; omega, c3⟩, by dsimp only; omega, c4⟩, if_pos (by omega)]
  · rw [e] at h1
    subst h1
    rw [g1 (by dsimp only; omega), g2 (by dsimp only; omega), g3 (by dsimp only; omega)]
    unfold Lib.decodeN
    rw [if_neg (by omega), if_neg (by omega), if_neg (by omega), if_pos ⟨c1, ⟨by dsimp only; omega, c3⟩, ⟨by dsimp only; omega, c4⟩, by dsimp only; omega, c5⟩, if_pos (by omega)]
  · rw [e] at h1
    subst h1
    exact absurd ⟨rfl, rfl⟩ hv
theorem width_len (l : List UInt8) (h : l ≠ []) : (Lib.decodeL l).2 ≤ l.length := by
  have hl := List.length_pos_iff.2 h
  have := Lib.width_le ⟨l.toArray⟩ (by simpa [ByteArray.size] using hl)
  simpa [ByteArray.size, Lib.decodeL] using this
theorem extr_data (s : ByteArray) (a : Nat) : (s.extract a s.size).data.toList = s.data.toList.drop a := by
  rw [ByteArray.data_extract, Array.toList_extract]
  simp only [List.extract]
  have : s.size = s.data.toList.length := rfl
  rw [this, ← List.length_drop, List.take_length]
/-- A text that is permitted is made of characters. -/
theorem chs_of : ∀ (f : Nat) (s : ByteArray), s.size ≤ f → txtF f s = true → ∃ cs, ChsOk cs ∧ s = tx cs
  | 0, s, hf, _ => ⟨[], (fun c hc => by cases hc), tx_of (by rw [ba_nil (by omega)]; rfl)⟩
  | f + 1, s, hf, h => by
    unfold txtF at h
    by_cases hs : s.size = 0
    · exact ⟨[], (fun c hc => by cases hc), tx_of (by rw [ba_nil hs]; rfl)⟩
    · rw [if_neg hs] at h
      split at h
      · cases h
      · rename_i hb
        have hlo := dec_lo s hs
        obtain ⟨cs, h1, h2⟩ := chs_of f (s.extract (Lib.decodeGo s).2 s.size) (by rw [Lib.size_rest]; omega) h
        rw [decGo_L s hs] at hb hlo h2
        have hne : s.data.toList ≠ [] := fun e => hs (by
          have : s.size = s.data.toList.length := rfl
          rw [this, e]; rfl)
        have hk := width_len _ hne
        have hv : ¬ ((Lib.decodeL s.data.toList).1 = 65533 ∧ (Lib.decodeL s.data.toList).2 = 1) := fun e => hb (.inl e)
        have hlen : (s.data.toList.take (Lib.decodeL s.data.toList).2).length = (Lib.decodeL s.data.toList).2 := by rw [List.length_take]; omega
        refine ⟨s.data.toList.take (Lib.decodeL s.data.toList).2 :: cs, ?_, ?_⟩
        · intro c hc
          rcases List.mem_cons.1 hc with rfl | hc
          · refine ⟨(Lib.decodeL s.data.toList).1, fun rest => ?_, by omega, ?_, ?_⟩
            · rw [dec_long _ hk hv rest, hlen]
            · cases hc2 : chB ((Lib.decodeL s.data.toList).1 : Int) with
              | true => rfl
              | false => exact absurd (.inr hc2) hb
            · rw [hlen]
              exact hv
          · exact h1 c hc
        · apply tx_of
          have h3 : (s.extract (Lib.decodeL s.data.toList).2 s.size).data.toList = (tx cs).data.toList := by rw [h2]
          rw [extr_data, tx_data] at h3
          rw [List.flatten_cons, ← h3, List.take_append_drop]
/-- Characters make a text that is permitted. -/
theorem txt_chs : ∀ (cs : List (List UInt8)) (f : Nat), ChsOk cs → (tx cs).size ≤ f → txtF f (tx cs) = true
  | [], f, _, _ => by
    cases f with
    | zero => rfl
    | succ f =>
      unfold txtF
      rw [if_pos (by simp [tx_size])]
  | c :: cs, f, h, hf => by
    obtain ⟨r, hr, hc0, hc1, hc2⟩ := h c (List.mem_cons_self ..)
    have hsz : (tx (c :: cs)).size = c.length + (tx cs).size := by simp [tx_size]
    cases f with
    | zero => omega
    | succ f =>
      have hne : (tx (c :: cs)).size ≠ 0 := by omega
      have hd : Lib.decodeGo (tx (c :: cs)) = (r, c.length) := by
        rw [decGo_L _ hne, tx_data, List.flatten_cons, hr]
      unfold txtF
      rw [if_neg hne, hd, if_neg (by
        rintro (e | e)
        · exact hc2 e
        · rw [hc1] at e
          cases e)]
      have he : (tx (c :: cs)).extract c.length (tx (c :: cs)).size = tx cs := by
        apply tx_of
        rw [extr_data, tx_data, List.flatten_cons, List.drop_left]
      rw [he]
      exact txt_chs cs f (fun x hx => h x (List.mem_cons_of_mem _ hx)) (by omega)
theorem txtE_chs {cs : List (List UInt8)} (h : ChsOk cs) (hs : (tx cs).size ≤ 32767) : txtE (tx cs) = 0 := by
  unfold txtE
  rw [if_neg (by omega), if_pos (txt_chs cs _ h (Nat.le_refl _))]
theorem chs_txtE {s : ByteArray} (h : txtE s = 0) : ∃ cs, ChsOk cs ∧ s = tx cs ∧ s.size ≤ 32767 := by
  unfold txtE at h
  by_cases h1 : 32767 < s.size
  · rw [if_pos h1] at h
    cases h
  · rw [if_neg h1] at h
    by_cases h2 : txtF s.size s = true
    · obtain ⟨cs, h3, h4⟩ := chs_of s.size s (Nat.le_refl _) h2
      exact ⟨cs, h3, h4, by omega⟩
    · rw [if_neg h2] at h
      cases h
/-- The bytes of the first n characters. -/
def skB (cs : List (List UInt8)) (n : Nat) : Nat := (cs.take n).flatten.length
theorem skB_zero (cs : List (List UInt8)) : skB cs 0 = 0 := rfl
theorem skB_all (cs : List (List UInt8)) {n : Nat} (h : cs.length ≤ n) : skB cs n = (tx cs).size := by
  rw [skB, List.take_of_length_le h, tx_size]
theorem skB_succ (cs : List (List UInt8)) {n : Nat} (h : n < cs.length) : skB cs (n + 1) = skB cs n + cs[n].length := by
  rw [skB, skB, List.take_add_one, List.getElem?_eq_getElem h, Option.toList_some, List.flatten_append, List.length_append]
  simp
theorem skB_le (cs : List (List UInt8)) (n : Nat) : skB cs n ≤ (tx cs).size := by
  rw [tx_size]
  conv => rhs; rw [← List.take_append_drop n cs, List.flatten_append, List.length_append]
  exact Nat.le_add_right _ _
theorem skB_lt {cs : List (List UInt8)} (h : ChsOk cs) {n : Nat} (hn : n < cs.length) : skB cs n < (tx cs).size := by
  have h1 := skB_succ cs hn
  have h2 := skB_le cs (n + 1)
  obtain ⟨r, -, h3, -⟩ := h cs[n] (List.getElem_mem hn)
  omega
theorem drop_flat (cs : List (List UInt8)) (n : Nat) : cs.flatten.drop (skB cs n) = (cs.drop n).flatten := by
  conv => lhs; rw [← List.take_append_drop n cs, List.flatten_append]
  rw [skB, List.take_append_drop, List.drop_left]
theorem take_flat (cs : List (List UInt8)) (n : Nat) : cs.flatten.take (skB cs n) = (cs.take n).flatten := by
  conv => lhs; rw [← List.take_append_drop n cs, List.flatten_append]
  rw [skB, List.take_append_drop, List.take_left]
/-- What is behind n characters. -/
theorem tx_drop (cs : List (List UInt8)) (n : Nat) : (tx cs).extract (skB cs n) (tx cs).size = tx (cs.drop n) := by
  apply tx_of
  rw [extr_data, tx_data, drop_flat]
theorem tx_take (cs : List (List UInt8)) (n : Nat) : (tx cs).extract 0 (skB cs n) = tx (cs.take n) := by
  apply tx_of
  rw [ByteArray.data_extract, Array.toList_extract, tx_data]
  simp [List.extract, take_flat]
theorem tx_app (a b : List (List UInt8)) : tx a ++ tx b = tx (a ++ b) := by
  apply tx_of
  simp [tx]
/-- One character is decoded. -/
theorem dec_tx {cs : List (List UInt8)} (h : ChsOk cs) {n : Nat} (hn : n < cs.length) : (Lib.decodeGo (tx (cs.drop n))).2 = cs[n].length := by
  rw [List.drop_eq_getElem_cons hn]
  obtain ⟨r, h1, h2, -, -⟩ := h cs[n] (List.getElem_mem hn)
  have hne : (tx (cs[n] :: cs.drop (n + 1))).size ≠ 0 := by
    rw [tx_size, List.flatten_cons, List.length_append]
    omega
  rw [decGo_L _ hne, tx_data, List.flatten_cons, h1]
theorem count_from {cs : List (List UInt8)} (h : ChsOk cs) : ∀ (b n : Nat), (tx cs).size ≤ skB cs n + b → n ≤ cs.length → Lib.runeCountFrom (tx cs) b (skB cs n) = cs.length - n
  | 0, n, hb, hn => by
    unfold Lib.runeCountFrom
    rcases Nat.lt_or_ge n cs.length with h1 | h1
    · have := skB_lt h h1
      omega
    · omega
  | b + 1, n, hb, hn => by
    unfold Lib.runeCountFrom
    rcases Nat.lt_or_ge n cs.length with h1 | h1
    · rw [if_pos (skB_lt h h1), dec_drop, tx_data, drop_flat, List.drop_eq_getElem_cons h1, List.flatten_cons]
      obtain ⟨r, h2, h3, -, -⟩ := h cs[n] (List.getElem_mem h1)
      rw [h2]
      have h4 := skB_succ cs h1
      dsimp only
      rw [← h4, count_from h b (n + 1) (by omega) (by omega)]
      omega
    · rw [if_neg (by rw [skB_all cs h1]; omega)]
      omega
/-- The number of characters. -/
theorem count_tx {cs : List (List UInt8)} (h : ChsOk cs) : Lib.runeCount (tx cs) = cs.length := by
  have := count_from h (tx cs).size 0 (by omega) (Nat.zero_le _)
  rw [skB_zero] at this
  unfold Lib.runeCount
  rw [this]
  omega
theorem ChsOk.take {cs : List (List UInt8)} (h : ChsOk cs) (n : Nat) : ChsOk (cs.take n) := fun c hc => h c (List.mem_of_mem_take hc)
theorem ChsOk.drop {cs : List (List UInt8)} (h : ChsOk cs) (n : Nat) : ChsOk (cs.drop n) := fun c hc => h c (List.mem_of_mem_drop hc)
theorem ChsOk.app {a b : List (List UInt8)} (ha : ChsOk a) (hb : ChsOk b) : ChsOk (a ++ b) := fun c hc => (List.mem_append.1 hc).elim (ha c) (hb c)
theorem len_size {cs : List (List UInt8)} (h : ChsOk cs) : cs.length ≤ (tx cs).size := by
  rw [← count_tx h]
  exact Lib.runeCount_le _
theorem tx_take_le (cs : List (List UInt8)) (n : Nat) : (tx (cs.take n)).size ≤ (tx cs).size := by
  have := skB_le cs n
  rw [tx_size]
  exact this
theorem tx_drop_le (cs : List (List UInt8)) (n : Nat) : (tx (cs.drop n)).size ≤ (tx cs).size := by
  rw [tx_size, tx_size]
  conv => rhs; rw [← List.take_append_drop n cs, List.flatten_append, List.length_append]
  exact Nat.le_add_left _ _
end Go.Proofs.YtcnlonaighlmbaaGreatDoor
