/- value.Same at values with equal fields and no items. -/
import Derived.Test.YtmapagbmihpbmaaGreatDoorVbC
namespace Go.Proofs.YtmapagbmihpbmaaGreatDoor
open Go.RowKit

theorem eqfunc_0 (A1 A2 : Option Addr) (c1 c2 : Nat) (w : World) :
    Calls Tryz.prog 32 #[.slice A1 0 c1, .slice A2 0 c2, .func (.func 14) #[] #[]] w fun e w' => e = .returned (.bool true) ∧ w = w' := by
  go_enter Tryz.func32, Tryz.ntmps32
  go_wp2
  go_loop [17] (fun i => i = .int .i64 0) (fun _ => 0)
  case atStart => rfl
  case round =>
    obtain rfl := hrel
    go_wp2
    go_ret
    exact ⟨rfl, rfl⟩
set_option maxRecDepth 100000 in
set_option maxHeartbeats 4000000 in
theorem same_t (k : Int) (num den text : ByteArray) (on : Bool) (code rows cols : Int) (A1 A2 : Option Addr) (c1 c2 : Nat) (w : World) :
    Calls Tryz.prog 14 #[(.agg #[.int .i64 k, .string num, .string den, .string text, .bool on, .int .i64 code, .int .i64 rows, .int .i64 cols, .slice A1 0 c1]), (.agg #[.int .i64 k, .string num, .string den, .string text, .bool on, .int .i64 code, .int .i64 rows, .int .i64 cols, .slice A2 0 c2])] w fun e w' => e = .returned (.bool true) ∧ Below w.heap.size w w' := by
  have HL0 := Lib.hid (((Loc.start w).alloc' rfl 27 #[.int .i64 k, .string num, .string den, .string text, .bool on, .int .i64 code, .int .i64 rows, .int .i64 cols, .slice A1 0 c1]).alloc' (g := w.heap.size + 1) (by simp) 27 #[.int .i64 k, .string num, .string den, .string text, .bool on, .int .i64 code, .int .i64 rows, .int .i64 cols, .slice A2 0 c2])
  have HQ := fr_eql_self num den
  go_enter Tryz.func14, Tryz.ntmps14
  go_upto_region 1 with fail
  go_region_with fail
  all_goals
    go_wp2_with (go_at_call 32; (with_reducible refine (eqfunc_0 _ _ _ _ _).mono ?_); rintro e w2 ⟨rfl, rfl⟩)
    go_ret
    refine ⟨rfl, ?_⟩
    exact (((((Below.refl _ _).alloc (Nat.le_refl _) _).alloc (by simp) _).alloc (by simp; omega) _).alloc (by simp; omega) _).drew
end Go.Proofs.YtmapagbmihpbmaaGreatDoor
