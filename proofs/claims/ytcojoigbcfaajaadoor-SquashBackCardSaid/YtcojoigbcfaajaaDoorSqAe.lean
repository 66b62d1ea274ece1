/- Plain: Kraft's inequality for lengthsOf's lengths; codes are short; tokens' bounds; what Pack answers. -/
import Derived.Test.YtcojoigbcfaajaaDoorSqAc
namespace Go.Proofs.YtcojoigbcfaajaaDoor
open Go.RowKit
namespace Sq

theorem fstct (L : Nat → Nat) : ∀ n, n ≤ 15 → (fst L n + ct L n) * 2 ^ (15 - n) = smT L (n + 1)
  | 0, _ => by simp [fst, ct, smT]
  | n + 1, h => by
    have ih := fstct L n (by omega)
    rw [smT, ← ih, fst]
    have e : 2 ^ (15 - n) = 2 * 2 ^ (15 - (n + 1)) := by
      rw [show 15 - n = (15 - (n + 1)) + 1 by omega, Nat.pow_succ]
      omega
    rw [e, Nat.add_mul]
    congr 1
    rw [Nat.mul_comm 2 (fst L n + ct L n), Nat.mul_assoc]
theorem smT_mono (L : Nat → Nat) : ∀ n k, smT L n ≤ smT L (n + k)
  | _, 0 => Nat.le_refl _
  | n, k + 1 => Nat.le_trans (smT_mono L n k) (by rw [← Nat.add_assoc, smT]; omega)
/-- No code is longer than its length. -/
theorem kraft_fst (L : Nat → Nat) (h : smT L 16 ≤ 32768) (n : Nat) (hn : n ≤ 15) : fst L n + ct L n ≤ 2 ^ n := by
  have h1 := fstct L n hn
  have h2 := smT_mono L (n + 1) (15 - n)
  rw [show n + 1 + (15 - n) = 16 by omega] at h2
  have h3 : (fst L n + ct L n) * 2 ^ (15 - n) ≤ 2 ^ n * 2 ^ (15 - n) := by
    rw [h1, ← Nat.pow_add, show n + (15 - n) = 15 by omega]
    omega
  exact Nat.le_of_mul_le_mul_right h3 (Nat.two_pow_pos _)
theorem sy_mono (L : Nat → Nat) (n : Nat) : ∀ x k, (sy L n x).length ≤ (sy L n (x + k)).length
  | _, 0 => Nat.le_refl _
  | x, k + 1 => by
    refine Nat.le_trans (sy_mono L n x k) ?_
    rw [← Nat.add_assoc, sy_step]
    split
    · rw [List.length_append]; omega
    · exact Nat.le_refl _
theorem sy_pos (L : Nat → Nat) (x : Nat) (hx : x < 272) : (sy L (L x) x).length < (sy L (L x) 272).length := by
  have h := sy_mono L (L x) (x + 1) (272 - (x + 1))
  rw [show x + 1 + (272 - (x + 1)) = 272 by omega, sy_step, if_pos rfl, List.length_append] at h
  simp only [List.length_cons, List.length_nil] at h
  omega
theorem cd_lt (L : Nat → Nat) (h : smT L 16 ≤ 32768) (x : Nat) (hx : x < 272) : cd L x < 32768 := by
  unfold cd
  split
  · next hc =>
    have h1 := kraft_fst L h (L x) hc.2
    have h2 := sy_pos L x hx
    have h3 : ct L (L x) = (sy L (L x) 272).length := if_neg (by omega)
    have h4 : 2 ^ L x ≤ 32768 := two_pow15 hc.2
    omega
  · decide
/-- What the symbols below s with lengths below N weigh. -/
def wS (L : Nat → Nat) (N s : Nat) : Nat := ((List.range s).map fun x => if 1 ≤ L x ∧ L x < N then 2 ^ (15 - L x) else 0).sum
theorem sum_range_succ (f : Nat → Nat) (s : Nat) : ((List.range (s + 1)).map f).sum = ((List.range s).map f).sum + f s := by
  rw [List.range_succ, List.map_append, List.sum_append]
  simp
theorem sy_sum (L : Nat → Nat) (n p : Nat) : ∀ s, ((List.range s).map fun x => if L x = n then p else 0).sum = (sy L n s).length * p
  | 0 => by simp [sy]
  | s + 1 => by
    rw [sum_range_succ, sy_sum L n p s, sy_step]
    by_cases h : L s = n
    · rw [if_pos h, if_pos h, List.length_append, Nat.add_mul]; simp
    · rw [if_neg h, if_neg h]; omega
theorem wS_succ (L : Nat → Nat) (N s : Nat) (hN : 1 ≤ N) : wS L (N + 1) s = wS L N s + (sy L N s).length * 2 ^ (15 - N) := by
  unfold wS
  rw [← sy_sum L N (2 ^ (15 - N)) s, ← sum_add]
  congr 1
  refine List.map_congr_left fun x _ => ?_
  by_cases h : L x = N
  · rw [if_pos h, if_pos (by omega), if_neg (by omega), h]; omega
  · rw [if_neg h]
    by_cases h2 : 1 ≤ L x ∧ L x < N
    · rw [if_pos h2, if_pos (by omega)]; rfl
    · rw [if_neg h2, if_neg (by omega)]
theorem smT_wS (L : Nat → Nat) : ∀ N, smT L (N + 1) = wS L (N + 1) 272
  | 0 => by
    have : wS L 1 272 = 0 := by
      unfold wS
      rw [show (fun x => if 1 ≤ L x ∧ L x < 1 then 2 ^ (15 - L x) else 0) = fun _ => 0 by funext x; rw [if_neg (by omega)]]
      rw [sum_const, Nat.mul_zero]
    rw [this]
    simp [smT, ct]
  | N + 1 => by
    rw [smT, smT_wS L N, wS_succ L (N + 1) 272 (by omega)]
    congr 2
theorem us_sum (c f : Nat → Nat) : ∀ s, ((usL c s).map f).sum = ((List.range s).map fun x => if 0 < c x then f x else 0).sum
  | 0 => rfl
  | s + 1 => by
    rw [sum_range_succ, usL_step]
    by_cases h : 0 < c s
    · rw [if_pos h, if_pos h, List.map_append, List.sum_append, us_sum c f s]; simp
    · rw [if_neg h, if_neg h, us_sum c f s]; omega
/-- The lengths of the codes are good: at most 15, positive for the symbols that occur, and they meet Kraft's inequality. -/
theorem lg_good (l : List Tok) (h0 : 0 < l.length) (hs : ∀ t ∈ l, t.1 < 272) : smT (lgF l) 16 ≤ 32768 ∧ (∀ x, lgF l x ≤ 15) ∧ ∀ t ∈ l, 1 ≤ lgF l t.1 := by
  have hU : ∀ t ∈ l, t.1 ∈ usL (cntF l) 272 := fun t ht => usL_mem.2 ⟨hs t ht, List.count_pos_iff.2 (List.mem_map.2 ⟨t, ht, rfl⟩)⟩
  by_cases h1 : (usL (cntF l) 272).length = 1
  · obtain ⟨y, hy⟩ := List.length_eq_one_iff.1 h1
    have hf : lgF l = fun x => if x = y then 1 else 0 := by
      funext x
      unfold lgF
      rw [if_pos h1, hy]
      rfl
    have hy2 : y < 272 := (usL_mem.1 (by rw [hy]; simp : y ∈ usL (cntF l) 272)).1
    refine ⟨?_, fun x => by rw [hf]; dsimp only; split <;> omega, fun t ht => ?_⟩
    · rw [smT_wS (lgF l) 15]
      have : ∀ s, wS (lgF l) 16 s ≤ if y < s then 16384 else 0 := fun s => by
        induction s with
        | zero => simp [wS]
        | succ s ih =>
          have e : wS (lgF l) 16 (s + 1) = wS (lgF l) 16 s + (if 1 ≤ lgF l s ∧ lgF l s < 16 then 2 ^ (15 - lgF l s) else 0) := sum_range_succ _ _
          rw [e]
          by_cases hsy : s = y
          · have hfs : lgF l s = 1 := by rw [hf, hsy]; exact if_pos rfl
            subst hsy
            rw [if_neg (Nat.lt_irrefl _)] at ih
            rw [hfs, if_pos (by omega), if_pos (Nat.lt_succ_self _)]
            have : 2 ^ (15 - 1) = 16384 := by decide
            omega
          · have hfs : lgF l s = 0 := by rw [hf]; exact if_neg hsy
            rw [hfs, if_neg (by omega)]
            refine Nat.le_trans ih ?_
            split <;> split <;> omega
      have h9 := this 272
      rw [if_pos hy2] at h9
      show wS (lgF l) 16 272 ≤ 32768
      omega
    · have := hU t ht
      rw [hy, List.mem_singleton] at this
      rw [hf, this]
      simp
  · have hlen : 0 < (usL (cntF l) 272).length := List.length_pos_of_mem (hU l[0] (List.getElem_mem h0))
    obtain ⟨S, hS⟩ : ∃ S, S = (lvW (cntF l) 15).take (2 * (usL (cntF l) 272).length - 2) := ⟨_, rfl⟩
    have hf : lgF l = fun x => cnt S x := by
      funext x
      unfold lgF
      rw [if_neg h1, hS]
    have hlo := lenOf_15 (usL (cntF l) 272).length (usL_len _ _)
    rw [← lvW_len] at hlo
    have hsub : Sub S (lvW (cntF l) 15) := ⟨(lvW (cntF l) 15).drop (2 * (usL (cntF l) 272).length - 2), by rw [hS, List.take_append_drop]⟩
    obtain ⟨k1, k2, k3, k4⟩ := kraft (srtW (cntF l)) (srtW_perm _) (usL (cntF l) 272) (usL_nodup _ _) (by omega) S hsub (by rw [hS, List.length_take]; omega)
    refine ⟨?_, fun x => by rw [hf]; exact k3 x, fun t ht => by rw [hf]; exact k2 _ (hU t ht)⟩
    rw [smT_wS (lgF l) 15]
    refine Nat.le_trans (Nat.le_of_eq ?_) k1
    rw [us_sum (cntF l)]
    unfold wS
    congr 1
    refine List.map_congr_left fun x hx => ?_
    have hx2 : x < 272 := List.mem_range.1 hx
    have hfx : lgF l x = cnt S x := by rw [hf]
    rw [hfx]
    have h3 := k3 x
    by_cases hc : 0 < cntF l x
    · have := k2 x (usL_mem.2 ⟨hx2, hc⟩)
      rw [if_pos hc, if_pos (by omega)]
    · have := k4 x (fun hm => hc (usL_mem.1 hm).2)
      rw [if_neg hc, if_neg (by omega)]
/-- What is known of a token. -/
def TokOk (t : Tok) : Prop := t.1 < 272 ∧ t.2.1 < 256 ∧ t.2.2.1 ≤ 8 ∧ t.2.2.2 < 32768
theorem mat_bd (n : Nat) (h3 : 3 ≤ n) (h : n ≤ 520) : (mat n).1 < 272 ∧ 256 ≤ (mat n).1 ∧ (mat n).2.1 < 256 ∧ (mat n).2.2 ≤ 8 := by
  have hk := matK_lt n
  unfold mat
  split
  · dsimp only; omega
  · next hn =>
    have hb := bas_le n (by omega)
    have hb2 := bas_nn (matK n)
    refine ⟨by dsimp only; omega, by dsimp only; omega, ?_, by dsimp only; omega⟩
    dsimp only
    have : ∀ k, k = matK n → n - (bas k).toNat < 256 := fun k hk2 => by
      unfold matK at hk2
      (repeat' split at hk2) <;> subst hk2 <;> simp only [bas] <;> omega
    exact this _ rfl
theorem tkn_ok (s : ByteArray) (hd ch : Nat → Int) (i : Nat) (hi : i < s.size) (ht : TI i hd ch) : TokOk (tkn s hd ch i) := by
  have hb := best_bd s hd ch i (Nat.le_of_lt hi) ht
  unfold tkn
  split
  · exact ⟨by have := bt_lt s i; show bt s i < 272; omega, (by decide : 0 < 256), (by decide : 0 ≤ 8), (by decide : 0 < 32768)⟩
  · next h =>
    have hm := mat_bd (best s hd ch i).1 (by omega) hb.1
    have h3 := hb.2.2 (by omega)
    exact ⟨hm.1, hm.2.2.1, hm.2.2.2, by show i - (best s hd ch i).2 - 1 < 32768; omega⟩
theorem tokG_ok (s : ByteArray) : ∀ (f i : Nat) (hd ch : Nat → Int) (o : List Tok), TI i hd ch → (∀ t ∈ o, TokOk t) → o.length ≤ i → i ≤ s.size → (∀ t ∈ tokG s f i hd ch o, TokOk t) ∧ (tokG s f i hd ch o).length ≤ s.size
  | 0, i, hd, ch, o, _, h, hl, hi => ⟨h, by rw [tokG]; omega⟩
  | f + 1, i, hd, ch, o, ht, h, hl, hi => by
    rw [tokG]
    by_cases hc : i < s.size
    · rw [if_pos hc]
      have ha := adv_bd s hd ch i hc ht
      refine tokG_ok s f _ _ _ _ ht.many (fun t hm => ?_) (by rw [List.length_append]; simp; omega) ha.2.2
      rcases List.mem_append.1 hm with hm | hm
      · exact h t hm
      · rw [List.mem_singleton.1 hm]; exact tkn_ok s hd ch i hc ht
    · rw [if_neg hc]
      exact ⟨h, by omega⟩
theorem TI0 : TI 0 (fun _ => -1) (fun _ => 0) := fun x => by
  show (-1 : Int) ≤ -1 ∧ (-1 : Int) < ((0 : Nat) : Int) ∧ (-1 : Int) ≤ 0 ∧ (0 : Int) ≤ (x : Int)
  omega
theorem tokF_ok (s : ByteArray) : (∀ t ∈ tokF s, TokOk t) ∧ (tokF s).length ≤ s.size := tokG_ok s s.size 0 _ _ [] TI0 (fun _ h => absurd h (by simp)) (by simp) (by omega)
theorem tokG_pre (s : ByteArray) : ∀ (f i : Nat) (hd ch : Nat → Int) (o : List Tok), o.length ≤ (tokG s f i hd ch o).length
  | 0, _, _, _, _ => Nat.le_refl _
  | f + 1, i, hd, ch, o => by
    rw [tokG]
    split
    · have := tokG_pre s f (i + adv s hd ch i) (insH s (adv s hd ch i) i hd) (insC s (adv s hd ch i) i hd ch) (o ++ [tkn s hd ch i])
      rw [List.length_append] at this
      omega
    · exact Nat.le_refl _
theorem tokF_pos (s : ByteArray) (h : 0 < s.size) : 0 < (tokF s).length := by
  unfold tokF
  obtain ⟨n, hn⟩ : ∃ n, s.size = n + 1 := ⟨s.size - 1, by omega⟩
  rw [hn, tokG, if_pos (by omega)]
  have := tokG_pre s n (0 + adv s (fun _ => -1) (fun _ => 0) 0) (insH s (adv s (fun _ => -1) (fun _ => 0) 0) 0 fun _ => -1) (insC s (adv s (fun _ => -1) (fun _ => 0) 0) 0 (fun _ => -1) fun _ => 0) ([] ++ [tkn s (fun _ => -1) (fun _ => 0) 0])
  simp at this ⊢
  omega
/-- The bits of the lengths. -/
def hdG (L : Nat → Nat) : Nat → List Nat × Nat
  | 0 => ([], 0)
  | n + 1 => putF (L n) 4 (hdG L n)
/-- A token is written. -/
def ptT (L : Nat → Nat) (st : List Nat × Nat) (t : Tok) : List Nat × Nat :=
  if 256 ≤ t.1 then putF t.2.2.2 15 (putF t.2.1 t.2.2.1 (putF (cd L t.1) (L t.1) st)) else putF (cd L t.1) (L t.1) st
def bodF (L : Nat → Nat) (l : List Tok) : List Nat := (l.foldl (ptT L) (hdG L 272)).1
def hd4 (n : Nat) : List Nat := [n / 16777216 % 256, n / 65536 % 256, n / 256 % 256, n % 256]
/-- What Pack answers. -/
def packF (s : ByteArray) : List Nat :=
  if 0 < s.size ∧ (bodF (lgF (tokF s)) (tokF s)).length < s.size then hd4 s.size ++ [1] ++ bodF (lgF (tokF s)) (tokF s)
  else hd4 s.size ++ [0] ++ s.data.toList.map UInt8.toNat
end Sq
end Go.Proofs.YtcojoigbcfaajaaDoor
