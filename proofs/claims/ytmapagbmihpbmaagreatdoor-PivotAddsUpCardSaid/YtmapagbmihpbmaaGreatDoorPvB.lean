/- pivot.compare of two keys of one item; pivot.key. -/
import Derived.Test.YtmapagbmihpbmaaGreatDoorGo
import Derived.Test.YtmapagbmihpbmaaGreatDoorVbC
import Derived.Test.YtmapagbmihpbmaaGreatDoorVbD
import Derived.Test.YtmapagbmihpbmaaGreatDoorGa
import Derived.Test.YtmapagbmihpbmaaGreatDoorPvR
set_option linter.unusedSimpArgs false
set_option linter.unusedVariables false
namespace Go.Proofs.YtmapagbmihpbmaaGreatDoor
open Go.RowKit

def csV (u : Vl) : List Value := u.cs.toList
/-- A key of one item is read. -/
def KR (W : World) (x : SV) (u : Vl) : Prop := Reads 9 csV W (sv3 x) [u]
theorem KR.below {w W : World} {x : SV} {u : Vl} (h : KR w x u) (hb : Below w.heap.size w W) : KR W x u := Reads.below h hb
/-- Its cells. -/
theorem KR.nine {W : World} {x : SV} {u : Vl} (h : KR W x u) : ∃ b o c, x = (some ⟨b, o, none⟩, 1, c) ∧ b < W.heap.size ∧
    W.cell? ⟨b, o, none⟩ = some (.int .i64 u.k) ∧ W.cell? ⟨b, o + 1, none⟩ = some (.string u.num) ∧ W.cell? ⟨b, o + 2, none⟩ = some (.string u.den) ∧ W.cell? ⟨b, o + 3, none⟩ = some (.string u.text) ∧ W.cell? ⟨b, o + 4, none⟩ = some (.bool u.on) ∧ W.cell? ⟨b, o + 5, none⟩ = some (.int .i64 u.code) ∧ W.cell? ⟨b, o + 6, none⟩ = some (.int .i64 u.rows) ∧ W.cell? ⟨b, o + 7, none⟩ = some (.int .i64 u.cols) ∧ W.cell? ⟨b, o + 8, none⟩ = some (.slice u.A u.n u.c) := by
  obtain ⟨A, c, e, -, -, h1⟩ := h
  obtain ⟨b, o, e2, hb, hc⟩ := h1 (by simp)
  obtain ⟨x1, x2, x3⟩ := x
  injection e with e3 e4 e5
  simp only [] at e3 e4 e5
  subst e3 e5
  subst e4
  refine ⟨b, o, _, by rw [e2]; rfl, hb, ?_⟩
  have hc' : ∀ j, j < 9 → W.cell? ⟨b, o + j, none⟩ = (csV u)[j]? := fun j hj => by
    have := hc 0 (by simp) j hj
    rw [show o + (0 * 9 + j) = o + j by omega] at this
    exact this
  exact ⟨hc' 0 (by decide), hc' 1 (by decide), hc' 2 (by decide), hc' 3 (by decide), hc' 4 (by decide), hc' 5 (by decide), hc' 6 (by decide), hc' 7 (by decide), hc' 8 (by decide)⟩
set_option maxRecDepth 100000 in
set_option maxHeartbeats 4000000 in
theorem keycmp_any (x y : SV) (u v : Vl) (w : World) (he : VEnv w) (hx : KR w x u) (hy : KR w y v) (hu : u.ok) (hv : v.ok) (su : u.sz) (sv' : v.sz) :
    Calls Tryz.prog 40 #[sv3 x, sv3 y] w fun e w' => e = .returned (.int .i64 (ordV u v)) ∧ Below w.heap.size w w' := by
  have HO := Lib.hid fun W (hW : Below w.heap.size w W) => order_any u v W (he.below hW) hu hv su sv'
  obtain ⟨b1, o1, c1, rfl, -, g0, g1, g2, g3, g4, g5, g6, g7, g8⟩ := hx.nine
  obtain ⟨b2, o2, c2, rfl, -, k0, k1, k2, k3, k4, k5, k6, k7, k8⟩ := hy.nine
  obtain ⟨z, hz⟩ : ∃ z, z = ordV u v := ⟨_, rfl⟩
  rw [← hz] at HO
  rw [← hz]
  obtain ⟨uk, unum, uden, utext, uon, ucode, urows, ucols, uA, un, uc⟩ := u
  obtain ⟨vk, vnum, vden, vtext, von, vcode, vrows, vcols, vA, vn, vc⟩ := v
  dsimp only at g0 g1 g2 g3 g4 g5 g6 g7 g8 k0 k1 k2 k3 k4 k5 k6 k7 k8
  have HO := Lib.hid (show ∀ W, Below w.heap.size w W → Calls Tryz.prog 69 #[.agg #[.int .i64 uk, .string unum, .string uden, .string utext, .bool uon, .int .i64 ucode, .int .i64 urows, .int .i64 ucols, .slice uA un uc], .agg #[.int .i64 vk, .string vnum, .string vden, .string vtext, .bool von, .int .i64 vcode, .int .i64 vrows, .int .i64 vcols, .slice vA vn vc]] W fun e w' => e = .returned (.tuple #[.int .i64 z, .int .i64 0]) ∧ Below W.heap.size W w' from HO.out)
  clear hz he hx hy hu hv su sv'
  show Calls Tryz.prog 40 #[.slice (some ⟨b1, o1, none⟩) 1 c1, .slice (some ⟨b2, o2, none⟩) 1 c2] w _
  go_enter Tryz.func40, Tryz.ntmps40
  go_wp2_with fail
  go_loopw [10] (fun u10 wr => (u10 = .int .i64 0 ∧ Hid (w = wr)) ∨ (u10 = .int .i64 1 ∧ z = 0 ∧ Hid (Below w.heap.size w wr))) (fun u _ => 1 - (intOf u).toNat)
  case atStart => exact .inl ⟨rfl, Lib.hid rfl⟩
  case round =>
    rcases hrel with ⟨rfl, hw⟩ | ⟨rfl, hz0, HB⟩
    · obtain rfl := hw.out
      by_cases hz0 : z = 0
      · subst hz0
        go_upto_region 4 with fail
        go_region_with (go_at_call 69; (with_reducible refine (HO.out _ (Below.refl _ _).drew).mono ?_); rintro e w1 ⟨rfl, hb⟩; have HB1 := Lib.hid (show Below w.heap.size w w1 from (Below.drew (Below.refl w.heap.size w)).trans hb); clear hb)
        all_goals
          go_wp2_with fail
          go_roundw
          case rel => exact .inr ⟨by go_num, by simp, HB1⟩
          case measure => simp [intOf]
      · have hzb : (z == 0) = false := by rw [beq_eq_false_iff_ne]; exact hz0
        go_upto_region 4 with fail
        go_region_with (go_at_call 69; (with_reducible refine (HO.out _ (Below.refl _ _).drew).mono ?_); rintro e w1 ⟨rfl, hb⟩; have HB1 := Lib.hid (show Below w.heap.size w w1 from (Below.drew (Below.refl w.heap.size w)).trans hb); clear hb)
        all_goals
          go_wp2_with fail
          go_ret
          exact ⟨rfl, HB1.out⟩
    · subst hz0
      go_wp2_with fail
      go_ret
      exact ⟨rfl, HB.out⟩
end Go.Proofs.YtmapagbmihpbmaaGreatDoor
