/- ftext, plain: the parts of a text. -/
import Derived.Test.YtcnlonaighlmbaaGreatDoorFtP
import Derived.Lib.Join
set_option linter.unusedSimpArgs false
set_option linter.unusedVariables false
namespace Go.Proofs.YtcnlonaighlmbaaGreatDoor
open Go.RowKit

theorem skB_add (cs : List (List UInt8)) (n k : Nat) : skB cs n + skB (cs.drop n) k = skB cs (n + k) := by
  unfold skB
  rw [List.take_add, List.flatten_append, List.length_append]
/-- The middle of a text. -/
theorem tx_mid (cs : List (List UInt8)) (n k : Nat) : (tx (cs.drop n)).extract 0 (skB (cs.drop n) k) = tx ((cs.drop n).take k) := tx_take _ _
theorem parts3 (cs : List (List UInt8)) (n k : Nat) : cs.take n ++ ((cs.drop n).take k ++ cs.drop (n + k)) = cs := by
  rw [← List.drop_drop, List.take_append_drop, List.take_append_drop]
theorem tx_parts3 (cs : List (List UInt8)) (n k : Nat) : tx (cs.take n) ++ tx ((cs.drop n).take k) ++ tx (cs.drop (n + k)) = tx cs := by
  rw [tx_app, tx_app, List.append_assoc, parts3]
theorem join3 (cs : List (List UInt8)) (n k : Nat) : (⟨(Lib.join ([tx (cs.take n), tx ((cs.drop n).take k), tx (cs.drop (n + k))].map (·.data.toList)) (⟨#[]⟩ : ByteArray).data.toList).toArray⟩ : ByteArray) = tx cs := by
  have h := congrArg List.flatten (parts3 cs n k)
  rw [List.flatten_append, List.flatten_append] at h
  simp only [List.map_cons, List.map_nil, tx_data, Lib.join]
  apply tx_of
  simp only [← h]
  simp
theorem mid_len (cs : List (List UInt8)) (n k : Nat) (h : n + k ≤ cs.length) : ((cs.drop n).take k).length = k := by
  rw [List.length_take, List.length_drop]
  omega
end Go.Proofs.YtcnlonaighlmbaaGreatDoor
