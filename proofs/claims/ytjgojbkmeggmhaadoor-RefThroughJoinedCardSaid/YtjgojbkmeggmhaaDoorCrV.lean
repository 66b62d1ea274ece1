/- The contract of cellref.Parse. -/
import Derived.Test.YtjgojbkmeggmhaaDoorCrV1
import Derived.Test.YtjgojbkmeggmhaaDoorCrV2
import Derived.Test.YtjgojbkmeggmhaaDoorCrV3
namespace Go.Proofs.YtjgojbkmeggmhaaDoor
open Go.RowKit

theorem parse_any (l : List UInt8) (w : World) (he : Env w) (hl : l.length ≤ 4000000000) :
    Calls Tryd.prog 33 #[sv l] w fun e w' => e = .returned (.tuple #[(parseF l).1.v, .int .i64 (parseF l).2]) ∧ Below w.heap.size w w' := by
  by_cases h500 : 500 < l.length
  · have hF : parseF l = (Ref.zero, 3) := by rw [parseF, if_pos h500]
    have HF := Lib.hid hF
    clear hF
    go_enter Tryd.func33, Tryd.ntmps33
    go_wp2_with fail
    go_returns
    exact ⟨by rw [HF.out]; rfl, by go_grown⟩
  by_cases href : l = [35, 82, 69, 70, 33]
  · subst href
    go_enter Tryd.func33, Tryd.ntmps33
    go_wp2_with fail
    go_returns
    exact ⟨by rfl, by go_grown⟩
  by_cases hb : (halves l).bad = true
  · exact parse_bad l w he hl h500 href hb
  have hb' : (halves l).bad = false := by simpa using hb
  by_cases hv : (Cr.valuesF (halves l).a).2.2 = 0 ∧ ((halves l).two = true → (Cr.valuesF (halves l).b).2.2 = 0)
  · exact parse_read l w he hl h500 href hb' hv
  · refine parse_err l w he hl h500 href hb' ?_
    by_cases h1 : (Cr.valuesF (halves l).a).2.2 = 0
    · right
      refine ⟨?_, fun h2 => hv ⟨h1, fun _ => h2⟩⟩
      cases h3 : (halves l).two
      · exact absurd ⟨h1, fun h => by rw [h3] at h; cases h⟩ hv
      · rfl
    · exact .inl h1
end Go.Proofs.YtjgojbkmeggmhaaDoor
