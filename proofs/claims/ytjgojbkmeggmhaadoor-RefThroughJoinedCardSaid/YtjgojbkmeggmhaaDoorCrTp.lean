/- The text of a reference: plain functions. -/
import Derived.Test.YtjgojbkmeggmhaaDoorCrF
import Derived.Test.YtjgojbkmeggmhaaDoorCrQ
import Derived.Lib.AppendIntMem
import Derived.Lib.ItoaLen
namespace Go.Proofs.YtjgojbkmeggmhaaDoor
open Go.RowKit

namespace Cr
def dollar (b : Bool) (l : List UInt8) : List UInt8 := if b then 36 :: l else l
def rowS (n : Int) (b : Bool) : List UInt8 := dollar b (Lib.itoa (n + 1))
def colS (n : Int) (b : Bool) : List UInt8 := dollar b (lt (n.toNat + 1))
end Cr

namespace Cr
def sheetS (l : List UInt8) : List UInt8 :=
  if l = [] then [] else if plain l then l ++ [33] else 39 :: (dbl l ++ [39, 33])
theorem sheetS_len {l : List UInt8} (h : l.length ≤ 200) : (sheetS l).length ≤ 403 := by
  have := dbl_len l
  unfold sheetS
  split
  · simp
  · split <;> simp <;> omega
end Cr
theorem Cr.dollar_len (b : Bool) (l : List UInt8) : (Cr.dollar b l).length ≤ l.length + 1 := by cases b <;> simp [Cr.dollar]
theorem Cr.colS_len (n : Int) (b : Bool) (h1 : n < 1073741824) : (Cr.colS n b).length ≤ 22 := by
  have h := Cr.dollar_len b (Cr.lt (n.toNat + 1))
  have := Cr.lt_len 7 (n.toNat + 1) (by omega)
  unfold Cr.colS; omega
theorem Cr.rowS_len (n : Int) (b : Bool) (h0 : 0 ≤ n) (h1 : n < 1073741824) : (Cr.rowS n b).length ≤ 22 := by
  have h := Cr.dollar_len b (Lib.itoa (n + 1))
  have := Lib.itoa_length_le (n + 1) (by omega) (by omega)
  unfold Cr.rowS; omega

def Ref.text (r : Ref) : List UInt8 :=
  if r.kind = 0 then Cr.sheetS r.sheet.data.toList ++ Cr.colS r.col r.ac ++ Cr.rowS r.row r.ar
  else if r.kind = 1 then Cr.sheetS r.sheet.data.toList ++ Cr.colS r.col r.ac ++ Cr.rowS r.row r.ar ++ [58] ++ Cr.colS r.col2 r.ac2 ++ Cr.rowS r.row2 r.ar2
  else if r.kind = 2 then Cr.sheetS r.sheet.data.toList ++ Cr.rowS r.row r.ar ++ [58] ++ Cr.rowS r.row2 r.ar2
  else if r.kind = 3 then Cr.sheetS r.sheet.data.toList ++ Cr.colS r.col r.ac ++ [58] ++ Cr.colS r.col2 r.ac2
  else [35, 82, 69, 70, 33]

theorem Ref.check_ok {r : Ref} (h : r.check = 0) : 0 ≤ r.kind ∧ r.kind ≤ 4 ∧ Cr.nameE r.sheet.data.toList = 0 ∧ r = r.meaning ∧ (0 ≤ r.row ∧ r.row < 1073741824) ∧ (0 ≤ r.col ∧ r.col < 1073741824) ∧ (0 ≤ r.row2 ∧ r.row2 < 1073741824) ∧ (0 ≤ r.col2 ∧ r.col2 < 1073741824) ∧ (r.kind = 0 ∨ (r.row ≤ r.row2 ∧ r.col ≤ r.col2)) := by
  unfold Ref.check at h
  split at h
  · cases h
  rename_i h0
  split at h
  · rename_i h1; exact absurd h h1
  rename_i h1
  split at h
  · cases h
  rename_i h2
  split at h
  · cases h
  rename_i h3
  split at h
  · cases h
  rename_i h4
  simp only [Bool.not_eq_false, Bool.and_eq_true, Cr.permitted, decide_eq_true_eq] at h3
  refine ⟨by omega, by omega, by simpa using h1, (Ref.same_iff _ _).1 (by simpa using h2), h3.1, h3.2.1, h3.2.2.1, h3.2.2.2, by omega⟩

theorem Cr.nameE_len {l : List UInt8} (h : Cr.nameE l = 0) : l.length ≤ 200 := by
  unfold Cr.nameE at h
  split at h
  · cases h
  · omega

end Go.Proofs.YtjgojbkmeggmhaaDoor
