/- Plain functions of cellref's reading side. -/
import Derived.Test.YtjgojbkmeggmhaaDoorCrC
import Derived.Lib.IndexMore
import Derived.Lib.Atoi
namespace Go.Proofs.YtjgojbkmeggmhaaDoor.Cr

/-- What stands between apostrophes: the title and what follows the closing one; none: there is no closing one. -/
def scanQ (l : List UInt8) : Option (List UInt8 × List UInt8) :=
  match l with
  | [] => none
  | c :: t =>
    if c = 39 then
      if t.head? = some 39 then (scanQ t.tail).map fun p => (39 :: p.1, p.2) else some ([], t)
    else (scanQ t).map fun p => (c :: p.1, p.2)
termination_by l.length
decreasing_by
  · simp; omega
  · simp

theorem scanQ_nil : scanQ [] = none := by rw [scanQ]
theorem scanQ_other {c : UInt8} (t : List UInt8) (h : c ≠ 39) : scanQ (c :: t) = (scanQ t).map fun p => (c :: p.1, p.2) := by
  rw [scanQ, if_neg h]
theorem scanQ_two (u : List UInt8) : scanQ (39 :: 39 :: u) = (scanQ u).map fun p => (39 :: p.1, p.2) := by
  rw [scanQ, if_pos rfl, if_pos (by rfl)]; rfl
theorem scanQ_end {t : List UInt8} (h : t.head? ≠ some 39) : scanQ (39 :: t) = some ([], t) := by
  rw [scanQ, if_pos rfl, if_neg h]

/-- The name of a sheet, the rest, and whether the form is right. -/
def sheetF (l : List UInt8) : List UInt8 × List UInt8 × Bool :=
  if Lib.hasPrefix l [39] = true then
    match scanQ (l.drop 1) with
    | none => ([], [], false)
    | some (b, r) => (b, Lib.trimPrefix r [33], Lib.hasPrefix r [33] && decide (b ≠ []))
  else
    let c := Lib.cut l [33]
    if c.2.2 = false ∨ l = [35, 82, 69, 70, 33] then ([], l, true) else (c.1, c.2.1, plain c.1)

structure Corner where
  letters : List UInt8
  number : List UInt8
  ac : Bool
  ar : Bool

def ltr (c : UInt8) : Bool := letterI (c.toNat : Int)
def dgt (c : UInt8) : Bool := digitI (c.toNat : Int)

/-- A corner, and whether the whole text is one. -/
def placeMid (s : List UInt8) : List UInt8 × Bool × Bool × List UInt8 :=
  let s0 := Lib.trimPrefix s [36]
  let d := Lib.hasPrefix s [36]
  let ls := s0.takeWhile ltr
  let r := s0.dropWhile ltr
  if ls = [] then (ls, false, d, r)
  else if r = [] then (ls, d, false, r)
  else (ls, d, Lib.hasPrefix r [36], Lib.trimPrefix r [36])

def good (ls num : List UInt8) (ar : Bool) : Bool :=
  decide (ls.length ≤ 7) && (decide (num.length ≤ 10) && (!Lib.hasPrefix num [48] && (decide (num ≠ []) || (decide (ls ≠ []) && !ar))))

def placeF (s : List UInt8) : Corner × Bool :=
  let m := placeMid s
  let num := m.2.2.2.takeWhile dgt
  let r := m.2.2.2.dropWhile dgt
  (⟨m.1, num, m.2.1, m.2.2.1⟩, decide (r = []) && good m.1 num m.2.2.1)

/-- Row, column and error of a corner. -/
def valuesF (c : Corner) : Int × Int × Int :=
  let n : Int := if c.number = [] then 0 else (Lib.atoi c.number).getD 0 - 1
  let m : Int × Int := if c.letters = [] then (0, 0) else column c.letters
  if m.2 ≠ 0 ∨ 1073741824 ≤ n then (0, 0, 2) else (n, m.1, 0)

end Go.Proofs.YtjgojbkmeggmhaaDoor.Cr
