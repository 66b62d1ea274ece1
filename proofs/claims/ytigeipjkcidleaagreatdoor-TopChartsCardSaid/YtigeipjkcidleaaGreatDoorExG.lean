/- The contracts of exact's Check and of few. -/
import Derived.Test.YtigeipjkcidleaaGreatDoorExB
import Derived.Test.YtigeipjkcidleaaGreatDoorLoc
namespace Go.Proofs.YtigeipjkcidleaaGreatDoor
open Go.RowKit

theorem read_c (sn sd : ByteArray) (w : World) (h1 : sn.size ≤ 9223372036854775807) (h2 : sd.size ≤ 9223372036854775807) :
    Calls Tryz.prog 129 #[.agg #[.string sn, .string sd]] w fun e w' => ∃ m A1 n1 c1 A2 n2 c2 c, e = .returned (.tuple #[.agg #[.bool m, .slice A1 n1 c1, .slice A2 n2 c2], .int .i64 c]) ∧ (c = 0 ↔ ∃ m n d, Nt.Rd sn.data.toList sd.data.toList m n d) ∧ Below w.heap.size w w' := by
  refine (read_any sn sd w h1 h2).mono ?_
  rintro e w' ⟨hb, x, c, rfl, (⟨rfl, m, n, d, hr, hx⟩ | ⟨h0, rfl, hno⟩)⟩
  · obtain ⟨A1, c1, A2, c2, rfl, -, -⟩ := hx.at'
    exact ⟨_, _, _, _, _, _, _, _, rfl, ⟨fun _ => ⟨m, n, d, hr⟩, fun _ => rfl⟩, hb⟩
  · exact ⟨_, _, _, _, _, _, _, _, rfl, ⟨fun h => absurd h h0, fun h => absurd h hno⟩, hb⟩

set_option maxRecDepth 100000 in
set_option maxHeartbeats 1000000 in
theorem check_any (sn sd : ByteArray) (w : World) (h1 : sn.size ≤ 9223372036854775807) (h2 : sd.size ≤ 9223372036854775807) :
    Calls Tryz.prog 114 #[.agg #[.string sn, .string sd]] w fun e w' => ∃ c : Int, e = .returned (.int .i64 c) ∧ (c = 0 ↔ ∃ m n d, Nt.Rd sn.data.toList sd.data.toList m n d) ∧ Below w.heap.size w w' := by
  have HR := Lib.hid fun W => read_c sn sd W h1 h2
  have HL0 := Lib.hid ((Loc.start w).alloc' rfl 24 #[.string sn, .string sd])
  clear h1 h2
  go_enter Tryz.func114, Tryz.ntmps114
  go_wp2_with (go_at_call 129; (with_reducible refine (HR.out _).mono ?_); rintro e w1 ⟨m, A1, n1, c1, A2, n2, c2, c, rfl, hc, hb⟩; have HL1 := Lib.hid ((HL0.out.step hb).alloc 107 #[.bool m, .slice A1 n1 c1, .slice A2 n2 c2]); have HC := Lib.hid hc; clear hc hb)
  go_ret
  exact ⟨c, rfl, HC.out, HL1.out.bel⟩
theorem check_t (sn sd : ByteArray) (w : World) (h1 : sn.size ≤ 9223372036854775807) (h2 : sd.size ≤ 9223372036854775807) (h : ∃ m n d, Nt.Rd sn.data.toList sd.data.toList m n d) :
    Calls Tryz.prog 114 #[.agg #[.string sn, .string sd]] w fun e w' => e = .returned (.int .i64 0) ∧ Below w.heap.size w w' :=
  (check_any sn sd w h1 h2).mono fun e w' ⟨c, he, hc, hb⟩ => by obtain rfl := hc.2 h; exact ⟨he, hb⟩
theorem check_f (sn sd : ByteArray) (w : World) (h1 : sn.size ≤ 9223372036854775807) (h2 : sd.size ≤ 9223372036854775807) (h : ¬ ∃ m n d, Nt.Rd sn.data.toList sd.data.toList m n d) :
    Calls Tryz.prog 114 #[.agg #[.string sn, .string sd]] w fun e w' => ∃ c : Int, e = .returned (.int .i64 c) ∧ (c != 0) = true ∧ Below w.heap.size w w' :=
  (check_any sn sd w h1 h2).mono fun e w' ⟨c, he, hc, hb⟩ => ⟨c, he, by rw [bne_iff_ne]; exact fun e => h (hc.1 e), hb⟩

structure Few (p : ByteArray × ByteArray) : Prop where
  rd : ∃ m n d, Nt.Rd p.1.data.toList p.2.data.toList m n d
  l1 : p.1.size ≤ 40
  l2 : p.2.size ≤ 40
/-- The cells of a slice of fractions. -/
def FrCells (W : World) (g : Nat) (l : List (ByteArray × ByteArray)) : Prop :=
  g < W.heap.size ∧ ∀ i (hi : i < l.length), W.cell? ⟨g, i * 2, none⟩ = some (.string l[i].1) ∧ W.cell? ⟨g, i * 2 + 1, none⟩ = some (.string l[i].2)
theorem FrCells.below {W W' : World} {g : Nat} {l : List (ByteArray × ByteArray)} (h : FrCells W g l) (hb : Below W.heap.size W W') : FrCells W' g l :=
  ⟨Nat.lt_of_lt_of_le h.1 hb.size, fun i hi => by
    have := h.2 i hi
    unfold World.cell? at this ⊢
    have e := hb.block g h.1
    simp only at this ⊢
    rw [e]; exact this⟩

theorem frcells3 (W : World) (a1 a2 b1 b2 c1 c2 : ByteArray) : FrCells (W.alloc (.cells #[.string a1, .string a2, .string b1, .string b2, .string c1, .string c2] 24)) W.heap.size [(a1, a2), (b1, b2), (c1, c2)] := by
  have hb := Blk.new W 24 #[.string a1, .string a2, .string b1, .string b2, .string c1, .string c2]
  refine ⟨by simp, fun i hi => ?_⟩
  match i, hi with
  | 0, _ => exact ⟨hb.cell 0, hb.cell 1⟩
  | 1, _ => exact ⟨hb.cell 2, hb.cell 3⟩
  | 2, _ => exact ⟨hb.cell 4, hb.cell 5⟩
theorem frcells2 (W : World) (a1 a2 b1 b2 : ByteArray) : FrCells (W.alloc (.cells #[.string a1, .string a2, .string b1, .string b2] 24)) W.heap.size [(a1, a2), (b1, b2)] := by
  have hb := Blk.new W 24 #[.string a1, .string a2, .string b1, .string b2]
  refine ⟨by simp, fun i hi => ?_⟩
  match i, hi with
  | 0, _ => exact ⟨hb.cell 0, hb.cell 1⟩
  | 1, _ => exact ⟨hb.cell 2, hb.cell 3⟩
theorem frcells1 (W : World) (a1 a2 : ByteArray) : FrCells (W.alloc (.cells #[.string a1, .string a2] 24)) W.heap.size [(a1, a2)] := by
  have hb := Blk.new W 24 #[.string a1, .string a2]
  refine ⟨by simp, fun i hi => ?_⟩
  match i, hi with
  | 0, _ => exact ⟨hb.cell 0, hb.cell 1⟩
end Go.Proofs.YtigeipjkcidleaaGreatDoor
