/- Contracts of exact's nat: slices.Clone at nat. -/
import Derived.Test.YtigeipjkcidleaaGreatDoorNatB
namespace Go.Proofs.YtigeipjkcidleaaGreatDoor
open Go.RowKit

set_option maxRecDepth 100000 in
theorem clone_any (v : Value) (l : List Nat) (w : World) (h : Nv w v l) :
    Calls Tryz.prog 134 #[v] w fun e w' => ∃ v', e = .returned v' ∧ Own w' w.heap.size v' l ∧ Below w.heap.size w w' := by
  have hlen := h.len
  have hk := h
  rcases h.src with ⟨rfl, rfl⟩ | ⟨ad, c, rfl, _, _⟩
  · have hq : ∀ W : World, (binOp .eql 105 (.slice none 0 0) (.slice none 0 0)).run Tryz.prog W = .ok (.bool true) W := fun W => Lib.run_eql_slice_nil (P := Tryz.prog) W 105 193 none 0 0 0 0 Tryz.underlying105
    go_enter Tryz.func134, Tryz.ntmps134
    go_wp2
    go_ret
    exact ⟨_, rfl, Own.nil _ _, Below.refl _ _⟩
  · have hq : ∀ W : World, (binOp .eql 105 (.slice (some ad) l.length c) (.slice none 0 0)).run Tryz.prog W = .ok (.bool false) W := fun W => Lib.run_eql_slice_nil (P := Tryz.prog) W 105 193 (some ad) l.length c 0 0 Tryz.underlying105
    have HK := Lib.hid (hk.below ((Below.refl _ w).alloc (Nat.le_refl _) (.cells #[] 193)))
    clear hk h
    go_enter Tryz.func134, Tryz.ntmps134
    go_wp2_with (at_builtin; refine wp_appN rfl (.tmp 5) (.tmp 6) rfl w.heap.size _ [] rfl (own_lit0 w w.heap.size (Nat.le_refl _)) _ l rfl HK.out ?_ ?_ ?_; (simp; omega); (simp); intro v1 w1 ho1 hb1 hg1)
    go_ret
    exact ⟨v1, rfl, by simpa using ho1, ((Below.refl _ _).alloc (Nat.le_refl _) _).trans hb1⟩
end Go.Proofs.YtigeipjkcidleaaGreatDoor
