/- Contracts of cellref: dollar, row, col. -/
import Derived.Test.YtjgojbkmeggmhaaDoorCrTp
import Derived.Test.YtjgojbkmeggmhaaDoorShelf
import Derived.Lib.AppendIntMem
import Derived.Lib.ItoaLen
namespace Go.Proofs.YtjgojbkmeggmhaaDoor
open Go.RowKit

/-- What the walks ask of the package-level variables of Go's library, in a world. -/
structure Env (w : World) : Prop where
  max : ∃ m, w.cell? ⟨1, 0, none⟩ = some (.int .i64 m)
  pow : Lib.TabIs Tryd.prog w "internal/strconv.uint64pow10" .u64 Lib.pow10Tab

theorem Env.below {w w' : World} (h : Env w) (hb : Below w.heap.size w w') : Env w' := by
  obtain ⟨⟨m, hm⟩, hp⟩ := h
  refine ⟨⟨m, ?_⟩, Lib.tabBelow_of_tabIs hp w' hb⟩
  rw [hb.cell (World.block_lt_of_cell? _ _ hm)]
  exact hm

theorem below_tr {w w1 w2 : World} (h1 : Below w.heap.size w w1) (h2 : Below w1.heap.size w1 w2) : Below w.heap.size w w2 := h1.trans (h2.mono h1.size)


theorem dollar_any (b : Bool) (l : List UInt8) (w : World) (hl : l.length ≤ 140737488355328) :
    Calls Tryd.prog 104 #[.bool b, .string ⟨l.toArray⟩] w fun e w' => e = .returned (.string ⟨(Cr.dollar b l).toArray⟩) ∧ w = w' := by
  cases b
  · go_enter Tryd.func104, Tryd.ntmps104
    go_wp2
    go_ret
    exact ⟨rfl, rfl⟩
  · have hc : (⟨#[36]⟩ : ByteArray) ++ ⟨l.toArray⟩ = ⟨(36 :: l).toArray⟩ := by
      rw [show (⟨#[36]⟩ : ByteArray) = ⟨[36].toArray⟩ from rfl, cat_cons]; rfl
    go_enter Tryd.func104, Tryd.ntmps104
    go_wp2
    go_ret
    exact ⟨rfl, rfl⟩

theorem row_any (n : Int) (b : Bool) (w : World) (he : Env w) (h0 : 0 ≤ n) (h1 : n < 1073741824) :
    Calls Tryd.prog 81 #[.int .i64 n, .bool b] w fun e w' => e = .returned (.string ⟨(Cr.rowS n b).toArray⟩) ∧ Below w.heap.size w w' := by
  have hl : (Lib.itoa (n + 1)).length ≤ 140737488355328 := Nat.le_trans (Lib.itoa_length_le _ (by omega) (by omega)) (by decide)
  go_enter Tryd.func81, Tryd.ntmps81
  go_wp2_with (first | (go_at_call 106; refine (Tryd.strconv_Itoa _ (by omega) (by omega) _ he.pow).mono ?_; rintro e w' ⟨rfl, k, os, rfl⟩) | (go_at_call 104; refine (dollar_any _ _ _ hl).mono ?_; rintro e w' ⟨rfl, rfl⟩))
  go_ret
  exact ⟨rfl, Lib.below_grow _ _ (Nat.le_refl _) _ _⟩

theorem col_any (n : Int) (b : Bool) (w : World) (h0 : 0 ≤ n) (h1 : n < 1073741824) :
    Calls Tryd.prog 80 #[.int .i64 n, .bool b] w fun e w' => e = .returned (.string ⟨(Cr.colS n b).toArray⟩) ∧ Below w.heap.size w w' := by
  obtain ⟨k, rfl⟩ : ∃ k : Nat, n = k := ⟨n.toNat, by omega⟩
  have hl : (Cr.lt (k + 1)).length ≤ 140737488355328 := Nat.le_trans (Cr.lt_len 7 (k + 1) (by omega)) (by decide)
  go_enter Tryd.func80, Tryd.ntmps80
  go_wp2_with (first | (go_at_call 105; refine (letters_any _ _ (by omega)).mono ?_; rintro e w' ⟨rfl, hb⟩) | (go_at_call 104; refine (dollar_any _ _ _ hl).mono ?_; rintro e w' ⟨rfl, rfl⟩))
  go_ret
  exact ⟨rfl, by assumption⟩
end Go.Proofs.YtjgojbkmeggmhaaDoor
