/- The contracts of exact's Round and Root. -/
import Derived.Test.YtmmlcponmdalmaaGreatDoorExN
namespace Go.Proofs.YtmmlcponmdalmaaGreatDoor
open Go.RowKit

/-- scaled, by a power of ten downward, of a whole number. -/
theorem scaled_d (m : Bool) (q p : Nat) (A1 : Option Addr) (c1 : Nat) (A2 : Option Addr) (c2 : Nat) (w : World) (h1 : Nv w (.slice A1 (Nt.digs q).length c1) (Nt.digs q)) (h2 : Nv w (.slice A2 (Nt.digs 1).length c2) (Nt.digs 1)) (hp : p ≤ 900) (hq : (Nt.digs q).length ≤ 400000) :
    Calls Tryz.prog 191 #[.agg #[.bool m, .slice A1 (Nt.digs q).length c1, .slice A2 (Nt.digs 1).length c2], .int .i64 (-(p : Int))] w fun e w' => ∃ B k B' k', e = .returned (.agg #[.bool m, .slice B (Nt.digs q).length k, .slice B' (Nt.digs (10 ^ p)).length k']) ∧ Nv w' (.slice B (Nt.digs q).length k) (Nt.digs q) ∧ Nv w' (.slice B' (Nt.digs (10 ^ p)).length k') (Nt.digs (10 ^ p)) ∧ Below w.heap.size w w' := by
  cases p with
  | zero =>
    have h := scaled_p m q 1 0 A1 c1 A2 c2 w h1 (by omega) hq
    rw [Nat.pow_zero, Nat.mul_one] at h
    refine h.mono ?_
    rintro e w' ⟨B, k, rfl, hv, hb⟩
    exact ⟨B, k, A2, c2, rfl, hv, h2.below hb, hb⟩
  | succ p =>
    have h := scaled_m m q 1 p A1 c1 A2 c2 w h2 (by omega) (Nat.le_trans (digs_one_le (by decide)) (by decide))
    rw [Nat.one_mul] at h
    refine h.mono ?_
    rintro e w' ⟨B, k, rfl, hv, hb⟩
    exact ⟨A1, c1, B, k, rfl, h1.below hb, hv, hb⟩

end Go.Proofs.YtmmlcponmdalmaaGreatDoor
