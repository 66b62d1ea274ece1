/- squash: what unpacked answers, and the words for its walk. -/
import Derived.Test.YtcojoigbcfaajaaDoorSqF
import Derived.Laws.IdiomStrings
import Derived.Laws.BytesArg
namespace Go.Proofs.YtcojoigbcfaajaaDoor
open Go.RowKit

namespace Sq
/-- A copy out of what stands already. -/
def cpy (o : List Nat) (f : Nat) : Nat → List Nat
  | 0 => o
  | k + 1 => cpy o f k ++ [(cpy o f k).getD (f + k) 0]
theorem cpy_len (o : List Nat) (f : Nat) : ∀ k, (cpy o f k).length = o.length + k
  | 0 => rfl
  | k + 1 => by rw [cpy, List.length_append, cpy_len o f k]; simp; omega
def Byt (o : List Nat) : Prop := ∀ x ∈ o, x < 256
theorem Byt.nil : Byt [] := fun _ h => absurd h (by simp)
theorem Byt.one {o : List Nat} (h : Byt o) {y : Nat} (hy : y < 256) : Byt (o ++ [y]) := fun x hx => by
  rcases List.mem_append.1 hx with h1 | h1
  · exact h x h1
  · rw [List.mem_singleton.1 h1]; exact hy
theorem Byt.at {o : List Nat} (h : Byt o) (i : Nat) : o.getD i 0 < 256 := by
  by_cases hi : i < o.length
  · rw [List.getD_eq_getElem?_getD, List.getElem?_eq_getElem hi]
    exact h _ (List.getElem_mem hi)
  · rw [List.getD_eq_getElem?_getD, List.getElem?_eq_none (by omega)]
    decide
theorem Byt.cpy {o : List Nat} (h : Byt o) (f : Nat) : ∀ k, Byt (cpy o f k)
  | 0 => h
  | k + 1 => (Byt.cpy h f k).one ((Byt.cpy h f k).at _)
def spB (y : Nat) : Nat := (spn y).1.toNat
theorem spn_facts (y : Nat) (h1 : 256 ≤ y) (h2 : y < 272) : (spn y).1 = (spB y : Int) ∧ 3 ≤ spB y ∧ spB y ≤ 265 ∧ (spn y).2 ≤ 8 := by
  have h : ∀ k : Fin 16, (spn (256 + k.val)).1 = (spB (256 + k.val) : Int) ∧ 3 ≤ spB (256 + k.val) ∧ spB (256 + k.val) ≤ 265 ∧ (spn (256 + k.val)).2 ≤ 8 := by decide +kernel
  have := h ⟨y - 256, by omega⟩
  simpa [show 256 + (y - 256) = y by omega] using this
/-- What unpacked does: the error, the bytes, the place. -/
def unpG (L : Nat → Nat) (s : ByteArray) (n : Nat) : Nat → List Nat → Nat → Nat × List Nat × Nat
  | 0, o, p => (0, o, p)
  | k + 1, o, p =>
    if o.length < n then
      (if (symF L s p).1 = 0 then
        (if (symF L s p).2.1 < 256 then unpG L s n k (o ++ [(symF L s p).2.1]) (symF L s p).2.2
         else if (symF L s p).2.2 + (spn (symF L s p).2.1).2 + 15 ≤ 8 * s.size then
          (if numN s ((symF L s p).2.2 + (spn (symF L s p).2.1).2) 15 + 1 ≤ o.length then
            (if spB (symF L s p).2.1 + numN s (symF L s p).2.2 (spn (symF L s p).2.1).2 ≤ n - o.length then
              unpG L s n k (cpy o (o.length - (numN s ((symF L s p).2.2 + (spn (symF L s p).2.1).2) 15 + 1)) (spB (symF L s p).2.1 + numN s (symF L s p).2.2 (spn (symF L s p).2.1).2)) ((symF L s p).2.2 + (spn (symF L s p).2.1).2 + 15)
             else (3, [], 0))
           else (2, [], 0))
         else (11, [], 0))
       else ((symF L s p).1, [], 0))
    else (0, o, p)
/-- The bits that fill the last byte. -/
def padG (s : ByteArray) : Nat → Nat → Nat × Nat
  | 0, p => (0, p)
  | k + 1, p => if p % 8 = 0 then (0, p) else if bitN s p = 0 then padG s k (p + 1) else (4, 0)
def unpF (L : Nat → Nat) (s : ByteArray) (n p : Nat) : Nat × List Nat :=
  if (unpG L s n n [] p).1 = 0 then
    (if (padG s 8 (unpG L s n n [] p).2.2).1 = 0 then
      (if (padG s 8 (unpG L s n n [] p).2.2).2 < 8 * s.size then (4, []) else (0, (unpG L s n n [] p).2.1))
     else (4, []))
  else ((unpG L s n n [] p).1, [])
def toB (l : List Nat) : ByteArray := ⟨(l.map UInt8.ofNat).toArray⟩
theorem symG_bd (L : Nat → Nat) (s : ByteArray) : ∀ k n code p, p ≤ 8 * s.size → (symG L s k n code p).2.2 ≤ 8 * s.size
  | 0, _, _, _, h => h
  | k + 1, n, code, p, h => by
    rw [symG]
    by_cases hp : p < 8 * s.size
    · rw [if_pos hp]
      split
      · exact hp
      · exact symG_bd L s k _ _ _ hp
    · rw [if_neg hp]; exact h
theorem sy_lt (L : Nat → Nat) (n : Nat) : ∀ m, ∀ x ∈ sy L n m, x < m
  | 0, x, h => by simp [show sy L n 0 = [] from rfl] at h
  | m + 1, x, h => by
    rw [sy_step] at h
    by_cases he : L m = n
    · rw [if_pos he] at h
      rcases List.mem_append.1 h with h | h
      · exact Nat.lt_succ_of_lt (sy_lt L n m x h)
      · rw [List.mem_singleton.1 h]; exact Nat.lt_succ_self _
    · rw [if_neg he] at h
      exact Nat.lt_succ_of_lt (sy_lt L n m x h)
theorem symG_lt (L : Nat → Nat) (s : ByteArray) : ∀ k n code p, (symG L s k n code p).2.1 < 272
  | 0, _, _, _ => show (0 : Nat) < 272 by decide
  | k + 1, n, code, p => by
    rw [symG]
    by_cases hp : p < 8 * s.size
    · rw [if_pos hp]
      split
      · show (sy L n 272).getD _ 0 < 272
        rw [List.getD_eq_getElem?_getD]
        rcases hq : (sy L n 272)[2 * code + bitN s p - fst L n]? with _ | x
        · decide
        · exact sy_lt L n 272 x (List.mem_of_getElem? hq)
      · exact symG_lt L s k _ _ _
    · rw [if_neg hp]
      show 0 < 272
      decide
theorem symG_err (L : Nat → Nat) (s : ByteArray) : ∀ k n code p, (symG L s k n code p).1 = 0 ∨ (symG L s k n code p).1 = 4 ∨ (symG L s k n code p).1 = 11
  | 0, _, _, _ => .inr (.inl rfl)
  | k + 1, n, code, p => by
    rw [symG]
    by_cases hp : p < 8 * s.size
    · rw [if_pos hp]
      split
      · exact .inl rfl
      · exact symG_err L s k _ _ _
    · rw [if_neg hp]; exact .inr (.inr rfl)
end Sq
/-- The state of unpacked: the changes, the reader, the bytes so far. -/
def UJ (w W : World) (gr : Nat) (s : ByteArray) (q : Nat) (v : Value) (o : List Nat) : Prop := gr < w.heap.size ∧ Chg w.heap.size [gr] w W ∧ Rd W gr s q ∧ R1 5 .u8 W w.heap.size v o
section
variable {w W W' : World} {gr : Nat} {s : ByteArray} {q q' : Nat} {v v' : Value} {o o' : List Nat}
theorem UJ.call (h : UJ w W gr s q v o) (hc : Chg W.heap.size [gr] W W') (hr : Rd W' gr s q') : UJ w W' gr s q' v o :=
  ⟨h.1, h.2.1.next hc, hr, h.2.2.2.chg hc fun g hg => ⟨(h.2.2.2.lt g hg).2, by have := (h.2.2.2.lt g hg).1; have := h.1; simp; omega⟩⟩
theorem UJ.later (h : UJ w W gr s q v o) (hb : Below W.heap.size W W') : UJ w W' gr s q v o :=
  h.call (Chg.of hb _) ((hb.block gr (Nat.lt_of_lt_of_le h.1 h.2.1.size)).trans h.2.2.1)
theorem UJ.grow (h : UJ w W gr s q v o) (hb : Below w.heap.size W W') (hr : R1 5 .u8 W' w.heap.size v' o') : UJ w W' gr s q v' o' :=
  ⟨h.1, h.2.1.trans (Chg.of hb _), (hb.block gr h.1).trans h.2.2.1, hr⟩
theorem UJ.drewN (h : UJ w W gr s q v o) (n : Nat) : UJ w (W.drewN n) gr s q v o := ⟨h.1, h.2.1.drewN n, h.2.2.1.drewN n, h.2.2.2.drewN n⟩
end
section
variable {w W : World} {gr : Nat} {s : ByteArray} {q : Nat} {v : Value} {o : List Nat}
theorem sym_u {L : Nat → Nat} {gd : Nat} (hd : Dec w gd gr L) (hne : gr ≠ gd) (hs : s.size ≤ 1125899906842624) (h : UJ w W gr s q v o) (hp : q ≤ 8 * s.size) :
    Calls Tryd.prog 26 #[.pointer (some ⟨gd, 0, none⟩), .pointer (some ⟨gr, 0, none⟩)] W fun e w' => e = .returned (.tuple #[.int .i64 ((Sq.symF L s q).2.1 : Nat), .int .i64 ((Sq.symF L s q).1 : Nat)]) ∧ UJ w w' gr s (Sq.symF L s q).2.2 v o :=
  (symbol_any L gd gr s q W (hd.chg h.2.1 (Nat.le_refl _) hne) h.2.2.1 hne hp hs).mono fun _ _ ⟨he, hc, hr⟩ => ⟨he, h.call hc hr⟩
theorem span_u (he : SEnv w) (hg : 0 ≠ gr) (h : UJ w W gr s q v o) (y : Nat) (h1 : 256 ≤ y) (h2 : y < 272) :
    Calls Tryd.prog 27 #[.int .i64 y] W fun e w' => e = .returned (.tuple #[.int .i64 (Sq.spB y : Nat), .int .i64 (spn y).2]) ∧ UJ w w' gr s q v o := by
  have := span_any y W (he.chg h.2.1 he.lt (by simp; exact hg)) h1 h2
  rw [(Sq.spn_facts y h1 h2).1] at this
  exact this.mono fun _ _ ⟨he, hc⟩ => ⟨he, h.later hc⟩
theorem num_u (hs : s.size ≤ 1125899906842624) (h : UJ w W gr s q v o) (n : Nat) (hn : n ≤ 15) (hp : q + n ≤ 8 * s.size) :
    Calls Tryd.prog 28 #[.pointer (some ⟨gr, 0, none⟩), .int .i64 n] W fun e w' => e = .returned (.int .i64 (numN s q n : Nat)) ∧ UJ w w' gr s (q + n) v o :=
  (number_any gr s q n W h.2.2.1 hn hp hs).mono fun _ _ ⟨he, hc, hr⟩ => ⟨he, h.call hc hr⟩
theorem nos_u (hs : s.size ≤ 1125899906842624) (h : UJ w W gr s q v o) (n : Nat) (hn : n ≤ 15) (h0 : q ≤ 8 * s.size) (hp : 8 * s.size < q + n) :
    Calls Tryd.prog 28 #[.pointer (some ⟨gr, 0, none⟩), .int .i64 n] W fun e w' => e = .returned (.int .i64 (-1)) ∧ UJ w w' gr s (8 * s.size) v o :=
  (number_short gr s q n W h.2.2.1 hn h0 hp hs).mono fun _ _ ⟨he, hc, hr⟩ => ⟨he, h.call hc hr⟩
theorem bit_u (hs : s.size ≤ 1125899906842624) (h : UJ w W gr s q v o) (hp : q < 8 * s.size) :
    Calls Tryd.prog 29 #[.pointer (some ⟨gr, 0, none⟩)] W fun e w' => e = .returned (.int .i64 (bitN s q : Nat)) ∧ UJ w w' gr s (q + 1) v o :=
  (bit_any gr s q W h.2.2.1 hp hs).mono fun _ _ ⟨he, hc, hr⟩ => ⟨he, h.call hc hr⟩
/-- The bytes as a string. -/
theorem str_u (h : UJ w W gr s q v o) (hB : Sq.Byt o) : (convert 29 9 v).run Tryd.prog W = .ok (.string (Sq.toB o)) W := by
  rcases h.2.2.2.2 with ⟨rfl, h0⟩ | ⟨g, cap, cur, rfl, -⟩
  · have : o = [] := List.length_eq_zero_iff.1 h0
    subst this
    exact run_convert_bytes_nil W 29 5 Tryd.underlying29 Tryd.underlying5 0 0 _ Tryd.underlying9
  · have hr := h.2.2.2
    have hb := run_convert_bytes_back W 29 9 5 ⟨g, 0, none⟩ cap (o.map UInt8.ofNat) Tryd.underlying29 Tryd.underlying5 Tryd.underlying9 (fun j hj => by
      have hj' : j < o.length := by simpa using hj
      rw [Addr.add_lit, Nat.zero_add, hr.cell rfl hj']
      have := hB _ (List.getElem_mem hj')
      simp
      omega)
    rw [List.length_map] at hb
    exact hb
end
end Go.Proofs.YtcojoigbcfaajaaDoor
