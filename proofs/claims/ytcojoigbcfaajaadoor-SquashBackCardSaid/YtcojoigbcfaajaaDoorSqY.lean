/- slices.SortStableFunc of bundles: its contract over the program. -/
import Derived.Test.YtcojoigbcfaajaaDoorSqX
namespace Go.Proofs.YtcojoigbcfaajaaDoor
open Go.Shelf Go.RowKit Go.Lib Go.Sort

abbrev SB : Type := Int × Option Addr × Nat × Nat
def sbE (x : SB) : List Value := [.int .i64 x.1, .slice x.2.1 x.2.2.1 x.2.2.2]
def sbC (x y : SB) : Int := wrap64 (x.1 - y.1)
theorem sbE_len (x : SB) : (sbE x).length = 2 := rfl
theorem sbE_one (x : SB) : ∀ v ∈ sbE x, v.oneCell' = true := by
  intro v hv
  simp only [sbE, List.mem_cons, List.not_mem_nil, or_false] at hv
  rcases hv with rfl | rfl <;> rfl
theorem cmp_any (x y : SB) (w : World) :
    Calls Tryd.prog 25 #[.agg #[.int .i64 x.1, .slice x.2.1 x.2.2.1 x.2.2.2], .agg #[.int .i64 y.1, .slice y.2.1 y.2.2.1 y.2.2.2]] w fun e w' => e = .returned (.int .i64 (sbC x y)) ∧ w' = (w.alloc (.cells #[.int .i64 x.1, .slice x.2.1 x.2.2.1 x.2.2.2] 71)).alloc (.cells #[.int .i64 y.1, .slice y.2.1 y.2.2.1 y.2.2.2] 71) := by
  obtain ⟨n, A, l, c⟩ := x
  obtain ⟨n', A', l', c'⟩ := y
  go_enter Tryd.func25, Tryd.ntmps25
  go_wp2
  go_ret
  exact ⟨rfl, rfl⟩
theorem cmp_lays (blk off size : Nat) (w : World) : CmpLays Tryd.prog 25 #[] sbE 2 sbC blk off size w := by
  intro m os dk _ x y
  refine (cmp_any x y _).mono ?_
  rintro e w' ⟨rfl, rfl⟩
  refine ⟨rfl, 0, #[.cells #[.int .i64 x.1, .slice x.2.1 x.2.2.1 x.2.2.2] 71, .cells #[.int .i64 y.1, .slice y.2.1 y.2.2.1 y.2.2.2] 71], ?_⟩
  rfl
theorem sort_any (d : Array SB) (g cap : Nat) (w : World) (hH : HoldsK sbE 2 w g 0 d) (hg : g < w.heap.size) (hsz : d.size < 1152921504606846976) :
    Calls Tryd.prog 24 #[.slice (some ⟨g, 0, none⟩) d.size cap, .func (.func 25) #[] #[]] w fun e w' => e = .returned (.tuple #[]) ∧ SWK sbE 2 w g 0 (Sq.stab sbC d) w' := by
  have HS := Lib.hid (stab_w (P := Tryd.prog) sqL sqL20 2 sqL.zE sbE sbC 25 #[] g 0 cap d w (fun _ _ => by kernel_rfl) (cmp_lays g 0 d.size w) ⟨sbE_len, sbE_one, hH, hg⟩ hsz)
  have hl : d.size ≤ 9223372036854775807 := by omega
  clear hH hg hsz
  go_enter Tryd.func24, Tryd.ntmps24
  go_wp2_with (go_at_call 36; (with_reducible refine HS.out.mono ?_); rintro e w1 ⟨rfl, hw⟩; have S2 := Lib.hid hw; clear hw)
  go_end0
  exact ⟨rfl, S2.out⟩
end Go.Proofs.YtcojoigbcfaajaaDoor
