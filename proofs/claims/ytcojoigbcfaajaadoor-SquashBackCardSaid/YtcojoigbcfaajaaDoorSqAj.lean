/- Plain: tokens are decoded into the bytes that they came from. -/
import Derived.Test.YtcojoigbcfaajaaDoorSqAi
namespace Go.Proofs.YtcojoigbcfaajaaDoor
open Go.RowKit
namespace Sq
theorem unpG_done (L : Nat → Nat) (r : ByteArray) (n k : Nat) (o : List Nat) (p : Nat) (h : n ≤ o.length) : unpG L r n k o p = (0, o, p) := by
  cases k with
  | zero => rfl
  | succ k => rw [unpG, if_neg (by omega)]
theorem unpG_lit {L : Nat → Nat} {r : ByteArray} {n k p y p1 : Nat} {o : List Nat} (hl : o.length < n) (hsym : symF L r p = (0, y, p1)) (hy : y < 256) : unpG L r n (k + 1) o p = unpG L r n k (o ++ [y]) p1 := by
  rw [unpG, if_pos hl, hsym]
  dsimp only
  rw [if_pos rfl, if_pos hy]
theorem unpG_mat {L : Nat → Nat} {r : ByteArray} {n k p y x a b p1 : Nat} {o : List Nat} (hl : o.length < n) (hsym : symF L r p = (0, y, p1)) (hy : ¬ y < 256) (hx : (spn y).2 = x) (hsz : p1 + x + 15 ≤ 8 * r.size) (ha : numN r p1 x = a) (hb : numN r (p1 + x) 15 = b) (hbl : b + 1 ≤ o.length) (hln : spB y + a ≤ n - o.length) :
    unpG L r n (k + 1) o p = unpG L r n k (cpy o (o.length - (b + 1)) (spB y + a)) (p1 + x + 15) := by
  subst hx
  subst ha
  subst hb
  rw [unpG, if_pos hl, hsym]
  dsimp only
  rw [if_pos rfl, if_neg hy, if_pos hsz, if_pos hbl, if_pos hln]
theorem decode (L : Nat → Nat) (hk : smT L 16 ≤ 32768) (r : ByteArray) (n sft : Nat) {o o' : List Nat} {T : List Tok} (h : Runs o T o') : ∀ (st : List Nat × Nat) (fuel : Nat), WOk st → Byt st.1 → sft ≤ pos st → Has r sft (T.foldl (ptT L) st) → pos (T.foldl (ptT L) st) ≤ sft + 8 * r.size → (∀ t ∈ T, 1 ≤ L t.1 ∧ L t.1 ≤ 15) → o'.length = n → n ≤ o.length + fuel → unpG L r n fuel o (pos st - sft) = (0, o', pos (T.foldl (ptT L) st) - sft) := by
  induction h with
  | nil o =>
    intro st fuel _ _ _ _ _ _ hn _
    exact unpG_done L r n fuel o _ (by omega)
  | @lit o o' T y hy hr ih =>
    intro st fuel hw hB hs hH hp hL hn hf
    have hm := hr.mono
    rw [List.length_append] at hm
    simp only [List.length_cons, List.length_nil] at hm
    rw [List.foldl_cons] at hH hp ⊢
    have e : ptT L st (y, 0, 0, 0) = putF (cd L y) (L y) st := by unfold ptT; exact if_neg (show ¬ 256 ≤ y by omega)
    rw [e] at hH hp ⊢
    have hLy := hL (y, 0, 0, 0) (by simp)
    simp only [] at hLy
    have ok := putF_ok (cd L y) (L y) st hw hB
    have pb := (putF_bits (cd L y) (L y) st hw hB).1
    have bf := foldl_before L T _ ok.1 ok.2 hH
    have hsym := symF_code L hk r y (by omega) hLy.1 hLy.2 (pos st - sft) (by omega) (fun j hj => bf.1.bit hw hB hs j hj)
    obtain ⟨k, rfl⟩ : ∃ k, fuel = k + 1 := ⟨fuel - 1, by omega⟩
    have ih := ih (putF (cd L y) (L y) st) k ok.1 ok.2 (by omega) hH hp (fun t ht => hL t (by simp [ht])) hn (by rw [List.length_append]; simp; omega)
    rw [unpG_lit (by omega) hsym hy, show pos st - sft + L y = pos (putF (cd L y) (L y) st) - sft by omega]
    exact ih
  | @mat o o' T y a x b h1 h2 hx ha hb hb2 hr ih =>
    intro st fuel hw hB hs hH hp hL hn hf
    have hm := hr.mono
    rw [cpy_len] at hm
    have hsp := spn_facts y h1 h2
    rw [List.foldl_cons] at hH hp ⊢
    have e : ptT L st (y, a, x, b) = putF b 15 (putF a x (putF (cd L y) (L y) st)) := by unfold ptT; exact if_pos (show 256 ≤ y from h1)
    rw [e] at hH hp ⊢
    have hLy := hL (y, a, x, b) (by simp)
    simp only [] at hLy
    have ok1 := putF_ok (cd L y) (L y) st hw hB
    have p1 := (putF_bits (cd L y) (L y) st hw hB).1
    obtain ⟨s1, hs1⟩ : ∃ s1, s1 = putF (cd L y) (L y) st := ⟨_, rfl⟩
    rw [← hs1] at hH hp ok1 p1 ⊢
    have ok2 := putF_ok a x s1 ok1.1 ok1.2
    have p2 := (putF_bits a x s1 ok1.1 ok1.2).1
    obtain ⟨s2, hs2⟩ : ∃ s2, s2 = putF a x s1 := ⟨_, rfl⟩
    rw [← hs2] at hH hp ok2 p2 ⊢
    have ok3 := putF_ok b 15 s2 ok2.1 ok2.2
    have p3 := (putF_bits b 15 s2 ok2.1 ok2.2).1
    have bf := foldl_before L T _ ok3.1 ok3.2 hH
    have H2 : Has r sft s2 := bf.1.before ok2.1 ok2.2
    have H2' := H2
    rw [hs2] at H2'
    have H1 : Has r sft s1 := H2'.before ok1.1 ok1.2
    have H1' := H1
    rw [hs1] at H1'
    have hsym := symF_code L hk r y h2 hLy.1 hLy.2 (pos st - sft) (by omega) (fun j hj => H1'.bit hw hB hs j hj)
    have hna := H2'.num ok1.1 ok1.2 (by omega) ha
    have hnb := bf.1.num ok2.1 ok2.2 (by omega) hb2
    obtain ⟨k, rfl⟩ : ∃ k, fuel = k + 1 := ⟨fuel - 1, by omega⟩
    have ih := ih (putF b 15 s2) k ok3.1 ok3.2 (by omega) hH hp (fun t ht => hL t (by simp [ht])) hn (by rw [cpy_len]; omega)
    have e1 : pos st - sft + L y = pos s1 - sft := by omega
    have e2 : pos s1 - sft + x = pos s2 - sft := by omega
    rw [e1] at hsym
    have hnb2 : numN r (pos s1 - sft + x) 15 = b := by rw [e2]; exact hnb
    rw [unpG_mat (by omega) hsym (by omega) hx (by omega) hna hnb2 (by omega) (by omega), show pos s1 - sft + x + 15 = pos (putF b 15 s2) - sft by omega]
    exact ih
/-- The bytes of a string, as numbers. -/
def bts (s : ByteArray) : List Nat := s.data.toList.map UInt8.toNat
theorem bts_len (s : ByteArray) : (bts s).length = s.size := by unfold bts; rw [List.length_map]; rfl
theorem bts_get (s : ByteArray) (i : Nat) (h : i < (bts s).length) : (bts s)[i] = bt s i := by
  have h2 : i < s.data.toList.length := by rw [bts_len] at h; exact h
  unfold bt
  rw [List.getD_eq_getElem?_getD, List.getElem?_eq_getElem h2]
  simp [bts]
theorem bts_take (s : ByteArray) (i : Nat) (h : i < s.size) : (bts s).take (i + 1) = (bts s).take i ++ [bt s i] := by
  have h2 : i < (bts s).length := by rw [bts_len]; exact h
  rw [List.take_add_one, List.getElem?_eq_getElem h2, bts_get s i h2]
  rfl
theorem ml_eq (s : ByteArray) (k i : Nat) : ∀ f m, (∀ j, j < m → bt s (k + j) = bt s (i + j)) → ∀ j, j < mlG s k i f m → bt s (k + j) = bt s (i + j)
  | 0, m, h => h
  | f + 1, m, h => by
    rw [mlG]
    split
    · next hc =>
      refine ml_eq s k i f (m + 1) fun j hj => ?_
      rcases (show j < m ∨ j = m by omega) with h1 | rfl
      · exact h j h1
      · exact hc.2
    · exact h
theorem bst_eq (s : ByteArray) (ch : Nat → Int) (i : Nat) : ∀ t (k : Int) n fr, (∀ j, j < n → bt s (fr + j) = bt s (i + j)) → ∀ j, j < (bstG s ch i t k n fr).1 → bt s ((bstG s ch i t k n fr).2 + j) = bt s (i + j)
  | 0, _, _, _, h => h
  | t + 1, k, n, fr, h => by
    rw [bstG]
    split
    · split
      · exact bst_eq s ch i t _ _ _ (ml_eq s k.toNat i 520 0 fun j hj => absurd hj (by omega))
      · exact bst_eq s ch i t _ _ _ h
    · exact h
theorem best_eq (s : ByteArray) (hd ch : Nat → Int) (i : Nat) : ∀ j, j < (best s hd ch i).1 → bt s ((best s hd ch i).2 + j) = bt s (i + j) := by
  unfold best
  split
  · exact bst_eq s ch i _ _ _ _ fun j hj => absurd hj (by omega)
  · intro j hj; exact absurd hj (by simp)
theorem cpy_take (s : ByteArray) (i fr : Nat) (hfr : fr < i) : ∀ n, i + n ≤ s.size → (∀ j, j < n → bt s (fr + j) = bt s (i + j)) → cpy ((bts s).take i) fr n = (bts s).take (i + n)
  | 0, _, _ => rfl
  | n + 1, h, he => by
    rw [cpy, cpy_take s i fr hfr n (by omega) fun j hj => he j (by omega), ← Nat.add_assoc, bts_take s (i + n) (by omega)]
    congr 2
    have hl : fr + n < ((bts s).take (i + n)).length := by rw [List.length_take, bts_len]; omega
    rw [List.getD_eq_getElem?_getD, List.getElem?_eq_getElem hl]
    have hl2 : fr + n < (bts s).length := by rw [bts_len]; omega
    show ((bts s).take (i + n))[fr + n] = _
    rw [List.getElem_take, bts_get s _ hl2, he n (by omega)]
theorem mat_all : ∀ k : Fin 518, (spn (mat (k.val + 3)).1).2 = (mat (k.val + 3)).2.2 ∧ spB (mat (k.val + 3)).1 + (mat (k.val + 3)).2.1 = k.val + 3 ∧ (mat (k.val + 3)).2.1 < 2 ^ (mat (k.val + 3)).2.2 := by decide +kernel
theorem mat_facts (n : Nat) (h3 : 3 ≤ n) (h : n ≤ 520) : (spn (mat n).1).2 = (mat n).2.2 ∧ spB (mat n).1 + (mat n).2.1 = n ∧ (mat n).2.1 < 2 ^ (mat n).2.2 := by
  have := mat_all ⟨n - 3, by omega⟩
  simpa [show n - 3 + 3 = n by omega] using this
theorem tok_runs (s : ByteArray) : ∀ (f i : Nat) (hd ch : Nat → Int) (o : List Tok), TI i hd ch → i ≤ s.size → s.size ≤ i + f → ∃ T, tokG s f i hd ch o = o ++ T ∧ Runs ((bts s).take i) T (bts s)
  | 0, i, hd, ch, o, _, h1, h2 => ⟨[], by rw [tokG, List.append_nil], by
      rw [List.take_of_length_le (by rw [bts_len]; omega)]
      exact .nil _⟩
  | f + 1, i, hd, ch, o, ht, h1, h2 => by
    rw [tokG]
    by_cases hc : i < s.size
    · rw [if_pos hc]
      have ha := adv_bd s hd ch i hc ht
      obtain ⟨T, e, hr⟩ := tok_runs s f (i + adv s hd ch i) (insH s (adv s hd ch i) i hd) (insC s (adv s hd ch i) i hd ch) (o ++ [tkn s hd ch i]) ht.many ha.2.2 (by omega)
      refine ⟨tkn s hd ch i :: T, by rw [e, List.append_assoc]; rfl, ?_⟩
      have hb := best_bd s hd ch i h1 ht
      by_cases h3 : (best s hd ch i).1 < 3
      · have e1 : adv s hd ch i = 1 := if_pos h3
        have e2 : tkn s hd ch i = (bt s i, 0, 0, 0) := if_pos h3
        rw [e1, bts_take s i hc] at hr
        rw [e2]
        exact .lit _ (bt_lt s i) hr
      · have e1 : adv s hd ch i = (best s hd ch i).1 := if_neg h3
        have e2 : tkn s hd ch i = ((mat (best s hd ch i).1).1, (mat (best s hd ch i).1).2.1, (mat (best s hd ch i).1).2.2, i - (best s hd ch i).2 - 1) := if_neg h3
        have hq := best_eq s hd ch i
        obtain ⟨b1, b2, b3⟩ := hb
        have hm := mat_facts (best s hd ch i).1 (by omega) b1
        have hm2 := mat_bd (best s hd ch i).1 (by omega) b1
        have b3 := b3 (by omega)
        rw [e1] at hr
        rw [e2]
        have hlen : ((bts s).take i).length = i := by rw [List.length_take, bts_len]; omega
        refine .mat _ _ _ _ hm2.2.1 hm2.1 hm.1 hm.2.2 (by rw [hlen]; omega) (by omega) ?_
        rw [hlen, hm.2.1, show i - (i - (best s hd ch i).2 - 1 + 1) = (best s hd ch i).2 by omega, cpy_take s i _ b3.1 _ b2 hq]
        exact hr
    · rw [if_neg hc]
      exact ⟨[], by rw [List.append_nil], by
        rw [List.take_of_length_le (by rw [bts_len]; omega)]
        exact .nil _⟩
theorem tokF_runs (s : ByteArray) : Runs [] (tokF s) (bts s) := by
  obtain ⟨T, e, h⟩ := tok_runs s s.size 0 (fun _ => -1) (fun _ => 0) [] TI0 (by omega) (by omega)
  unfold tokF
  rw [e]
  exact h
end Sq
end Go.Proofs.YtcojoigbcfaajaaDoor
