/- RefThroughJoined: a reference goes through two changes as through their join (an area, if the first one adds nothing), and back through the undone change, if nothing was removed. Conditions: the row's own listed variables. -/
import Derived.Test.YtjgojbkmeggmhaaDoorAxS
import Derived.Test.YtjgojbkmeggmhaaDoorAgg
import Derived.Test.YtjgojbkmeggmhaaDoorAggP
import Derived.Test.YtjgojbkmeggmhaaDoorEnv
import Derived.Test.YtjgojbkmeggmhaaDoorFrm
import Derived.Test.YtjgojbkmeggmhaaDoorTie
import Derived.Test.YtjgojbkmeggmhaaDoorCards
import Derived.ProofKit
import Derived.OpenShut
import Derived.LaidMore
import Derived.Lay
import Derived.SevenTiedAt
import Derived.Stop.Joined
import Derived.ChangeOld
import Derived.Below
namespace Go.Proofs.YtjgojbkmeggmhaaDoor.refThroughJoined
open Go Go.ChangeShapes Go.WideShapes Go.ChangeAt Go.RowKit
open Go.ChangeMaps (open_string shut_string)

theorem own : ownKnob Tryd.prog.godebug = none := by kernel_rfl
theorem laidOut : laidOutB Tryd.prog = true := by kernel_rfl

set_option maxRecDepth 100000 in
theorem lifted (os : Os) (started : os.Started) (H : Type) (enc : TypeId × Value → H) :
    ReturnsInHanded {} Tryd.checked os 6 .any (fun w args => (Rows.refThroughJoinedSpec.pre enc Tryd.prog Tryd.f6 Rows.refThroughJoinedRow.domain false w args ∧ laidMetH Tryd.prog Rows.refThroughJoinedRow.laid w) ∧ sizedMet enc Tryd.prog Tryd.f6 (OpenSpec.ofChange Rows.refThroughJoinedSpec) false w args)
      (Rows.refThroughJoinedSpec.post enc Tryd.prog Tryd.f6 false true false false) := by
  refine returns_of_laid_shaped (C := Tryd.checked) (X := fun w _ => laidMetH Tryd.prog Rows.refThroughJoinedRow.laid w) (fun _ _ _ hh h => h.of_heap hh) own started (by kernel_rfl) Tryd.func6
    (ChangeSpec.witness_shaped (enc := enc) (C := Tryd.checked) (os := os) (X := fun w _ => laidMetH Tryd.prog Rows.refThroughJoinedRow.laid w) false (World.laidAll Tryd.prog os Rows.refThroughJoinedRow.laid) #[.agg #[.string ByteArray.empty, .int .i64 0, .int .i64 0, .int .i64 0, .int .i64 0, .int .i64 0, .bool false, .bool false, .bool false, .bool false], .slice none 0 0, .slice none 0 0] 8 (World.laidAll_os _ _ _)
      (World.shaped_of_ZipB (by kernel_rfl) (by kernel_rfl)) (by kernel_rfl) (by kernel_rfl) (by kernel_rfl)
      (by rw [MakeChecks.laidMetH_plain _ _ _ (by kernel_rfl)]; exact laidMet_laidAll _ (by kernel_rfl) (by kernel_rfl))) ?_
  intro W base args ds gs before hval0 hW hc _ hL hsh _
  have hval : ∀ (j : Nat) t v, Tryd.f6.params[j]? = some t → args[j]? = some v → Value.okWide Tryd.prog W .any base t v := hval0
  have hW' := hW
  obtain ⟨p, q, hA0, hV, rfl, hfz, hnd⟩ := hW
  have hA : DataW.TrodAll enc Tryd.prog W 0 (fun _ => true) true Tryd.f6.params.toList args.toList ds p := hA0
  rw [Tryd.params6] at hA hval
  obtain ⟨v0, vs0, d0, ds0, p0, q0, hargs, rfl, rfl, h0, r0⟩ := trodAll_cons hA
  obtain ⟨v1, vs1, d1, ds1, p1, q1, rfl, rfl, rfl, h1, r1⟩ := trodAll_cons r0
  obtain ⟨v2, vs2, d2, ds2, p2, q2, rfl, rfl, rfl, h2, r2⟩ := trodAll_cons r1
  obtain ⟨rfl, rfl, rfl⟩ := trodAll_nil r2
  obtain rfl : args = #[v0, v1, v2] := by cases args; simp_all
  obtain ⟨rfl, rfl⟩ := trodVars_none hV
  have k0 := h0
  have lt0 : ∀ x ∈ p0, x.block < W.heap.size := by obtain ⟨m, hm⟩ := k0; exact DataW.trod_lt m _ _ _ hm
  have k1 := h1
  have lt1 : ∀ x ∈ p1, x.block < W.heap.size := by obtain ⟨m, hm⟩ := k1; exact DataW.trod_lt m _ _ _ hm
  have k2 := h2
  have lt2 : ∀ x ∈ p2, x.block < W.heap.size := by obtain ⟨m, hm⟩ := k2; exact DataW.trod_lt m _ _ _ hm
  obtain ⟨c00, c01, c02, c03, c04, c05, c06, c07, c08, c09, y00, y01, y02, y03, y04, y05, y06, y07, y08, y09, m0, rfl, _, _, t00, t01, t02, t03, t04, t05, t06, t07, t08, t09⟩ := open_agg10 Tryd.underlying40 (by kernel_rfl) (by kernel_rfl) (hval 0 40 v0 rfl rfl) h0
  obtain ⟨a00, e00, _, w00⟩ := DataW.trod_string Tryd.underlying9 t00
  obtain ⟨a01, e01, _, w01⟩ := DataW.trod_int Tryd.underlying3 t01
  obtain ⟨a02, e02, _, w02⟩ := DataW.trod_int Tryd.underlying3 t02
  obtain ⟨a03, e03, _, w03⟩ := DataW.trod_int Tryd.underlying3 t03
  obtain ⟨a04, e04, _, w04⟩ := DataW.trod_int Tryd.underlying3 t04
  obtain ⟨a05, e05, _, w05⟩ := DataW.trod_int Tryd.underlying3 t05
  obtain ⟨a06, e06, _⟩ := DataW.trod_bool Tryd.underlying4 t06
  obtain ⟨a07, e07, _⟩ := DataW.trod_bool Tryd.underlying4 t07
  obtain ⟨a08, e08, _⟩ := DataW.trod_bool Tryd.underlying4 t08
  obtain ⟨a09, e09, _⟩ := DataW.trod_bool Tryd.underlying4 t09
  obtain rfl : c00 = _ := by simpa using e00
  obtain rfl : c01 = _ := by simpa using e01
  obtain rfl : c02 = _ := by simpa using e02
  obtain rfl : c03 = _ := by simpa using e03
  obtain rfl : c04 = _ := by simpa using e04
  obtain rfl : c05 = _ := by simpa using e05
  obtain rfl : c06 = _ := by simpa using e06
  obtain rfl : c07 = _ := by simpa using e07
  obtain rfl : c08 = _ := by simpa using e08
  obtain rfl : c09 = _ := by simpa using e09
  obtain ⟨l1, s1, z1⟩ := open_steps (hval 1 41 v1 rfl rfl) h1
  obtain ⟨l2, s2, z2⟩ := open_steps (hval 2 41 v2 rfl rfl) h2
  clear hA0 hval0
  have hL2 : laidMet Tryd.prog Rows.refThroughJoinedRow.laid W := by
    rw [MakeChecks.laidMetH_plain _ _ _ (by kernel_rfl)] at hL; exact hL
  have he : Env W := env_of hsh hL2
  refine (joined_any ⟨a00, a01, a02, a03, a04, a05, a06, a07, a08, a09⟩ v1 v2 l1 l2 W he w00 s1 s2 z1 z2).mono fun e W' ⟨he2, bel⟩ => ?_
  subst he2
  exact ⟨_, rfl, _, _, _, [], _, [], hW', trodAll_mk1 (shut_bool Tryd.underlying4 _), (trodAll_cons_mk (Below.trod laidOut (by kernel_rfl) (of_decide_eq_true (by kernel_rfl)) k0 bel lt0) (trodAll_cons_mk (Below.trod laidOut (by kernel_rfl) (of_decide_eq_true (by kernel_rfl)) k1 bel lt1) (trodAll_cons_mk (Below.trod laidOut (by kernel_rfl) (of_decide_eq_true (by kernel_rfl)) k2 bel lt2) trodAll_mk0))), rfl, bel.frame _, fun h => by cases h⟩

theorem holds : Rows.RefThroughJoinedSaid :=
  OpenClaim.holds_of_wide 6 Tryd.f6 rfl rfl rfl rfl rfl rfl rfl ⟨rfl, rfl, rfl, rfl, rfl⟩ rfl rfl rfl rfl rfl (by kernel_rfl) Tryd.func6 (by kernel_rfl)
    (of_decide_eq_true (by kernel_rfl)) (by unfold Func.isWrapper; first | (rw [if_pos (by decide +kernel)]; kernel_rfl) | (rw [if_neg (by decide +kernel)]; exact ⟨rfl, rfl⟩))
    (fun os started H enc _ => lifted os started H enc)

/-- The tied card. -/
theorem card_holds : Rows.RefThroughJoinedCardSaid :=
  Claim7.holds_tied_plain_at .later [] Rows.refThroughJoinedCard.laidKinds true Rows.refThroughJoinedCard.stood.harness true holds (fun _ h => by cases h) (by kernel_rfl) (fun _ h => by cases h) refThroughJoined_row_tie rfl ⟨rfl, rfl⟩ (by kernel_rfl) rfl
    (fun f fn hf hfn => by
      obtain rfl : f = 6 := Option.some.inj ((show Tryd.prog.funcNamed "chancery/chancerykeep2.RefThroughJoined" = some 6 by kernel_rfl).symm.trans hf) |>.symm
      obtain rfl : fn = Tryd.f6 := (Option.some.inj (Tryd.func6.symm.trans hfn)).symm
      exact ⟨by kernel_rfl, fun j t ht => by
        rw [Tryd.params6] at ht
        have hm : t ∈ [40, 41, 41] := by simpa using Array.mem_of_getElem? ht
        have hall : ([40, 41, 41].all fun u => !Tryd.prog.wantsStandIn u) = true := by kernel_rfl
        exact (show Tryd.prog.wantsStandIn t = false by simpa using List.all_eq_true.1 hall t hm)⟩)
    (by kernel_rfl)
#print axioms card_holds
end Go.Proofs.YtjgojbkmeggmhaaDoor.refThroughJoined
