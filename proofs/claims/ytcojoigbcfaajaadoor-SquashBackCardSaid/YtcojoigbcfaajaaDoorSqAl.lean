/- Plain: a run of one letter is packed into few bytes. -/
import Derived.Test.YtcojoigbcfaajaaDoorSqAk
namespace Go.Proofs.YtcojoigbcfaajaaDoor
open Go.RowKit
namespace Sq
theorem ptT_pos (L : Nat → Nat) (st : List Nat × Nat) (t : Tok) (hL : L t.1 ≤ 15) (hx : t.2.2.1 ≤ 8) (hw : WOk st) (hB : Byt st.1) : pos (ptT L st t) ≤ pos st + 38 := by
  have h1 := putF_ok (cd L t.1) (L t.1) st hw hB
  have p1 := (putF_bits (cd L t.1) (L t.1) st hw hB).1
  unfold ptT
  split
  · have h2 := putF_ok t.2.1 t.2.2.1 _ h1.1 h1.2
    have p2 := (putF_bits t.2.1 t.2.2.1 _ h1.1 h1.2).1
    have p3 := (putF_bits t.2.2.2 15 _ h2.1 h2.2).1
    omega
  · omega
theorem fold_pos (L : Nat → Nat) (hL : ∀ x, L x ≤ 15) : ∀ (l : List Tok) (st : List Nat × Nat), (∀ t ∈ l, t.2.2.1 ≤ 8) → WOk st → Byt st.1 → pos (l.foldl (ptT L) st) ≤ pos st + 38 * l.length
  | [], _, _, _, _ => Nat.le_refl _
  | t :: l, st, hx, hw, hB => by
    have h1 := ptT_pos L st t (hL _) (hx t (by simp)) hw hB
    have h2 := foldl_ok L [t] st hw hB
    simp only [List.foldl_cons, List.foldl_nil] at h2
    have h3 := fold_pos L hL l (ptT L st t) (fun u hu => hx u (by simp [hu])) h2.1 h2.2
    rw [List.foldl_cons, List.length_cons]
    omega
theorem body_len (s : ByteArray) (h0 : 0 < s.size) : (bodF (lgF (tokF s)) (tokF s)).length ≤ (1088 + 38 * (tokF s).length + 7) / 8 := by
  have hok := tokF_ok s
  have hp := tokF_pos s h0
  have hg := lg_good (tokF s) hp (fun t ht => (hok.1 t ht).1)
  obtain ⟨L, hL⟩ : ∃ L, L = lgF (tokF s) := ⟨_, rfl⟩
  rw [← hL] at hg ⊢
  have h272 := hdG_ok L 272
  unfold bodF
  obtain ⟨s0, hs0⟩ : ∃ s0, s0 = hdG L 272 := ⟨_, rfl⟩
  rw [← hs0] at h272 ⊢
  have hf := foldl_ok L (tokF s) s0 h272.1 h272.2.1
  have hps := fold_pos L hg.2.1 (tokF s) s0 (fun t ht => (hok.1 t ht).2.2.1) h272.1 h272.2.1
  have hl := hf.1.len
  have h7 := hf.1.1
  have hpe : pos ((tokF s).foldl (ptT L) s0) = 8 * ((tokF s).foldl (ptT L) s0).1.length - ((tokF s).foldl (ptT L) s0).2 := rfl
  have := h272.2.2
  omega
section
variable {s : ByteArray} (hz : ∀ i, i < s.size → bt s i = 122)
include hz
theorem run_hsh (i : Nat) (hi : i + 3 ≤ s.size) : hsh s i = ((122 * 1024) ^^^ (122 * 32) ^^^ 122) % 32768 := by
  have h0 := hz i (by omega)
  have h1 := hz (i + 1) (by omega)
  have h2 := hz (i + 2) (by omega)
  unfold bt at h0 h1 h2
  unfold hsh
  rw [h0, h1, h2]
theorem run_ml (k i : Nat) (hk : k < i) : ∀ f m, i + m ≤ s.size → mlG s k i f m = min (m + f) (s.size - i)
  | 0, m, h => by rw [mlG]; omega
  | f + 1, m, h => by
    rw [mlG]
    by_cases hc : i + m < s.size
    · rw [if_pos ⟨hc, by rw [hz _ hc, hz _ (by omega)]⟩, run_ml k i hk f (m + 1) (by omega)]
      omega
    · rw [if_neg (fun h => hc h.1)]
      omega
omit hz in
theorem bst_ge (s : ByteArray) (ch : Nat → Int) (i : Nat) : ∀ t (k : Int) n fr, n ≤ (bstG s ch i t k n fr).1
  | 0, _, _, _ => Nat.le_refl _
  | t + 1, k, n, fr => by
    rw [bstG]
    split
    · split
      · next h => exact Nat.le_trans (Nat.le_of_lt h) (bst_ge s ch i t _ _ _)
      · exact bst_ge s ch i t _ _ _
    · exact Nat.le_refl _
theorem run_adv (hd ch : Nat → Int) (i : Nat) (hi : 1 ≤ i) (h3 : i + 3 ≤ s.size) (hh : hd (hsh s i) = (i : Int) - 1) : min 520 (s.size - i) ≤ adv s hd ch i := by
  have hb : min 520 (s.size - i) ≤ (best s hd ch i).1 := by
    unfold best
    rw [if_pos h3, hh, bstG, if_pos ⟨by omega, by omega⟩]
    have hm : ml s ((i : Int) - 1).toNat i = min 520 (s.size - i) := by
      unfold ml
      rw [run_ml hz _ i (by omega) 520 0 (by omega), Nat.zero_add]
    rw [hm, if_pos (by omega)]
    exact bst_ge s ch i _ _ _ _
  unfold adv
  rw [if_neg (by omega)]
  exact hb
omit hz in
theorem adv_small (s : ByteArray) (hd ch : Nat → Int) (i : Nat) (h3 : ¬ i + 3 ≤ s.size) : adv s hd ch i = 1 := by
  unfold adv best
  rw [if_neg h3]
  rfl
theorem run_ins (n i : Nat) (hd : Nat → Int) (h : i + (n + 1) + 3 ≤ s.size) : insH s (n + 1) i hd (hsh s (i + (n + 1))) = ((i + (n + 1) : Nat) : Int) - 1 := by
  rw [insH_succ]
  unfold hd1
  rw [if_pos (by omega), run_hsh hz _ h, run_hsh hz (i + n) (by omega), if_pos rfl]
  omega
theorem run_count : ∀ f i (hd ch : Nat → Int) (o : List Tok), TI i hd ch → 1 ≤ i → i ≤ s.size → (i + 3 ≤ s.size → hd (hsh s i) = (i : Int) - 1) → (tokG s f i hd ch o).length ≤ o.length + min (s.size - i) ((s.size - i) / 520 + 3)
  | 0, i, hd, ch, o, _, _, _, _ => by rw [tokG]; omega
  | f + 1, i, hd, ch, o, ht, h1, hi, hh => by
    rw [tokG]
    by_cases hc : i < s.size
    · rw [if_pos hc]
      have ha := adv_bd s hd ch i hc ht
      obtain ⟨a, hae⟩ : ∃ a, a = adv s hd ch i := ⟨_, rfl⟩
      have hge : i + 3 ≤ s.size → min 520 (s.size - i) ≤ a := fun h => by rw [hae]; exact run_adv hz hd ch i h1 h (hh h)
      have hsm : ¬ i + 3 ≤ s.size → a = 1 := fun h => by rw [hae]; exact adv_small s hd ch i h
      rw [← hae] at ha ⊢
      have ih := run_count f (i + a) (insH s a i hd) (insC s a i hd ch) (o ++ [tkn s hd ch i]) ht.many (by omega) ha.2.2 (fun h => by
        obtain ⟨b, rfl⟩ : ∃ b, a = b + 1 := ⟨a - 1, by omega⟩
        exact run_ins hz b i hd h)
      rw [List.length_append] at ih
      simp only [List.length_cons, List.length_nil] at ih
      by_cases h3 : i + 3 ≤ s.size
      · have := hge h3
        omega
      · have := hsm h3
        omega
    · rw [if_neg hc]
      omega
theorem run_toks (h0 : 1000 ≤ s.size) (hs : s.size ≤ 3999) : (tokF s).length ≤ 11 := by
  unfold tokF
  obtain ⟨n, hn⟩ : ∃ n, s.size = n + 1 := ⟨s.size - 1, by omega⟩
  have e0 : tokG s s.size 0 (fun _ => -1) (fun _ => 0) [] = tokG s n (0 + adv s (fun _ => -1) (fun _ => 0) 0) (insH s (adv s (fun _ => -1) (fun _ => 0) 0) 0 fun _ => -1) (insC s (adv s (fun _ => -1) (fun _ => 0) 0) 0 (fun _ => -1) fun _ => 0) ([] ++ [tkn s (fun _ => -1) (fun _ => 0) 0]) := by
    rw [hn, tokG, if_pos (by omega)]
  have hb : best s (fun _ => -1) (fun _ => 0) 0 = (0, 0) := by
    unfold best
    rw [if_pos (by omega)]
    show bstG s (fun _ => 0) 0 (31 + 1) (-1) 0 0 = (0, 0)
    rw [bstG, if_neg (fun h => absurd h.1 (by decide))]
  have ha : adv s (fun _ => -1) (fun _ => 0) 0 = 1 := by
    unfold adv
    rw [hb]
    rfl
  rw [e0, ha]
  have ih := run_count hz n (0 + 1) (insH s 1 0 fun _ => -1) (insC s 1 0 (fun _ => -1) fun _ => 0) ([] ++ [tkn s (fun _ => -1) (fun _ => 0) 0]) TI0.many (by omega) (by omega) (fun h => run_ins hz 0 0 _ h)
  have ih2 : _ ≤ 1 + min (s.size - (0 + 1)) ((s.size - (0 + 1)) / 520 + 3) := ih
  omega
theorem run_small (h0 : 1000 ≤ s.size) (hs : s.size ≤ 3999) : 4 * (toB (packF s)).size < s.size := by
  have h1 := run_toks hz h0 hs
  have h2 := body_len s (by omega)
  rw [toB_size]
  unfold packF
  rw [if_pos ⟨by omega, by omega⟩, List.length_append, List.length_append]
  have : (hd4 s.size).length = 4 := rfl
  simp only [this, List.length_cons, List.length_nil]
  omega
end
end Sq
end Go.Proofs.YtcojoigbcfaajaaDoor
