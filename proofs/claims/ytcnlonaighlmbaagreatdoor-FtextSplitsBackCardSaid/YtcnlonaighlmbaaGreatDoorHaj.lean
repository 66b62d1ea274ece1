/- A region that draws its order: what some operations load is taken first, if it stands till an operation that waits for them. -/
import Derived.Test.YtcnlonaighlmbaaGreatDoorRows
import Derived.WalkKit
import Derived.OrdersHeld
import Derived.Deep.RegionHeld3
set_option linter.unusedSimpArgs false
set_option linter.unusedVariables false
namespace Go.Proofs.YtcnlonaighlmbaaGreatDoor
open Go

section
variable {P : Program} {ops : Array Oper} {Q : Exit → Act → World → Prop} {md : Region.Mode} {S1 S2 : World → Prop} {d : Nat}
/-- S1 holds behind every operation, S2 behind every one till number d has come up. -/
def wpAnyG (P : Program) (md : Region.Mode) (ops : Array Oper) (Q : Exit → Act → World → Prop) (S1 S2 : World → Prop) (d : Nat) : Nat → Array Bool → Act → World → Prop
  | 0, L, a, w => Region.ready md ops L = [] ∧ Q .normal a w
  | fuel + 1, L, a, w =>
    (Region.ready md ops L = [] → Q .normal a w) ∧
    ∀ i ∈ Region.ready md ops L, wpOp P ops Q i (fun a' w' => (S1 w' ∧ ((L.setIfInBounds i true).getD d false = true ∨ S2 w')) ∧ wpAnyG P md ops Q S1 S2 d fuel (L.setIfInBounds i true) a' w') a w
theorem wpAny_of_G : ∀ (fuel : Nat) (L : Array Bool) (a : Act) (w : World), wpAnyG P md ops Q S1 S2 d fuel L a w → wpAny P md ops Q fuel L a w
  | 0, _, _, _, h => h
  | fuel + 1, _, _, _, h => ⟨h.1, fun i hi => wpOp_mono (fun a' w' h' => wpAny_of_G fuel _ a' w' h'.2) (h.2 i hi)⟩
/-- What holds along the ways on which number i has not come up. -/
theorem wpAnyG_first {i : Nat} {oi : Oper} {v : Value} (S : World → Prop) (hi : ops[i]? = some oi) (hsel : ∀ (j : Nat) (o : Oper) cs b, ops[j]? = some o → o.op ≠ .select cs b)
    (hQ : ∀ c a w, Q (.panic c) (a.put oi.dst v) w → Q (.panic c) a w) (hdi : d ≠ i)
    (hS : ∀ w, S1 w → S2 w → S w) (hS1 : (∀ w, S1 w → S w) ∨ ∀ od, ops[d]? = some od → ∃ e ∈ od.after, Region.binds md e = true ∧ e.on = i) :
    ∀ (fuel : Nat) (L : Array Bool) (a : Act) (w : World),
      (∀ j oj, ops[j]? = some oj → j ≠ i → L.getD j true = false → (∀ e ∈ oj.after, Region.binds md e = true → e.on ≠ i) → oi.apart ops oj = true) →
      i ∈ Region.ready md ops L → YieldsIf P ops S oi v a → S1 w → (L.getD d false = true → ∀ w, S1 w → S w) → (L.getD d false = true ∨ S2 w) →
      wpAnyG P md ops Q S1 S2 d fuel (L.setIfInBounds i true) (a.put oi.dst v) w → wpAnyG P md ops Q S1 S2 d (fuel + 1) L a w := by
  intro fuel
  induction fuel with
  | zero =>
    intro L a w _ hr hy hw1 hd hw2 H
    have hSw : S w := by
      rcases hw2 with h | h
      · exact hd h w hw1
      · exact hS w hw1 h
    refine ⟨fun h => (by rw [h] at hr; cases hr), fun j hj => ?_⟩
    by_cases hji : j = i
    · subst hji
      exact hy.wpOp hi hSw ⟨⟨hw1, by rw [getD_set_ne false (Ne.symm hdi)]; exact hw2⟩, H⟩
    · have := ready_mono hj hji
      rw [H.1] at this
      cases this
  | succ fuel ih =>
    intro L a w hfree hr hy hw1 hd hw2 H
    have hSw : S w := by
      rcases hw2 with h | h
      · exact hd h w hw1
      · exact hS w hw1 h
    refine ⟨fun h => (by rw [h] at hr; cases hr), fun j hj => ?_⟩
    by_cases hji : j = i
    · subst hji
      exact hy.wpOp hi hSw ⟨⟨hw1, by rw [getD_set_ne false (Ne.symm hdi)]; exact hw2⟩, H⟩
    · have h1 := H.2 j (ready_mono hj hji)
      obtain ⟨hjun, oj, hoj, hall⟩ := mem_ready.1 hj
      have hnot : ∀ e ∈ oj.after, Region.binds md e = true → e.on ≠ i := fun e he hb heq => by
        have h1 := hall e he hb
        have h0 := (mem_ready.1 hr).1
        rw [heq] at h1
        rcases Nat.lt_or_ge i L.size with h' | h'
        · simp [h'] at h0 h1; rw [h0] at h1; cases h1
        · simp [Array.getElem?_eq_none h'] at h1
      have h2 := wpOp_putIf hoj (hfree j oj hoj hji hjun hnot) (fun cs b => hsel i oi cs b hi) (fun cs b => hsel j oj cs b hoj) hQ hy h1
      have hfree' : ∀ k ok, ops[k]? = some ok → k ≠ i → (L.setIfInBounds j true).getD k true = false →
          (∀ e ∈ ok.after, Region.binds md e = true → e.on ≠ i) → oi.apart ops ok = true := fun k ok hk hki hun hno => by
        refine hfree k ok hk hki ?_ hno
        by_cases hjk : j = k
        · subst hjk; exact hjun
        · rw [getD_set_ne true hjk] at hun; exact hun
      have hd' : (L.setIfInBounds j true).getD d false = true → ∀ w, S1 w → S w := fun h => by
        rcases hS1 with h9 | h9
        · exact h9
        · by_cases hjd : j = d
          · obtain ⟨e, he, hb, heq⟩ := h9 oj (by rw [← hjd]; exact hoj)
            exact absurd heq (hnot e he hb)
          · rw [getD_set_ne false hjd] at h
            exact hd h
      refine wpOp_mono (fun a' w' h3 => ?_) h2
      obtain ⟨hya, ⟨g1, g2⟩, h4⟩ := h3
      have g2' : (L.setIfInBounds j true).getD d false = true ∨ S2 w' := by
        rcases g2 with g2 | g2
        · refine .inl ?_
          rw [Array.setIfInBounds_comm _ _ (Ne.symm hji), getD_set_ne false (Ne.symm hdi)] at g2
          exact g2
        · exact .inr g2
      refine ⟨⟨g1, g2'⟩, ih (L.setIfInBounds j true) a' w' hfree' (ready_mono hr (Ne.symm hji)) hya g1 hd' g2' ?_⟩
      rw [Array.setIfInBounds_comm _ _ hji]
      exact h4
/-- Take number i first: S1 gives its value. -/
theorem wpAnyG_take1 {i : Nat} {oi : Oper} {v : Value} {fuel : Nat} {L : Array Bool} {a : Act} {w : World} (hi : ops[i]? = some oi)
    (hs : Region.noSelect ops = true) (hf : Region.free md ops L i = true) (hr : (Region.ready md ops L).contains i = true) (hdi : (d == i) = false)
    (hQ : ∀ c a w, Q (.panic c) (a.put oi.dst v) w → Q (.panic c) a w) (hy : YieldsIf P ops S1 oi v a) (hT : S1 w ∧ (L.getD d false = true ∨ S2 w))
    (h : S1 w ∧ ((L.setIfInBounds i true).getD d false = true ∨ S2 w) → wpAnyG P md ops Q S1 S2 d fuel (L.setIfInBounds i true) (a.put oi.dst v) w) : wpAnyG P md ops Q S1 S2 d (fuel + 1) L a w := by
  have hdi : d ≠ i := by simpa using hdi
  exact wpAnyG_first S1 hi (Region.noSelect_spec hs) hQ hdi (fun _ h _ => h) (.inl fun _ h => h) fuel L a w (Region.free_spec hi hf) (by simpa using hr) hy hT.1 (fun _ _ h => h) hT.2 (h ⟨hT.1, by rw [getD_set_ne false (Ne.symm hdi)]; exact hT.2⟩)
/-- One of those that may come up comes up. -/
def AllG (P : Program) (md : Region.Mode) (ops : Array Oper) (Q : Exit → Act → World → Prop) (S1 S2 : World → Prop) (d : Nat) (fuel : Nat) (L : Array Bool) (a : Act) (w : World) (rs : List Nat) : Prop :=
  ∀ i ∈ rs, wpOp P ops Q i (fun a' w' => (S1 w' ∧ ((L.setIfInBounds i true).getD d false = true ∨ S2 w')) ∧ wpAnyG P md ops Q S1 S2 d fuel (L.setIfInBounds i true) a' w') a w
theorem AllG.nil {fuel : Nat} {L : Array Bool} {a : Act} {w : World} : AllG P md ops Q S1 S2 d fuel L a w [] := fun _ h => by cases h
theorem AllG.cons {fuel : Nat} {L : Array Bool} {a : Act} {w : World} {i : Nat} {o : Oper} {rs : List Nat} (ho : ops[i]? = some o)
    (h : ∀ K' : Act → World → Prop, Shut (∀ a w, (S1 w ∧ ((L.setIfInBounds i true).getD d false = true ∨ S2 w)) → (S1 w ∧ ((L.setIfInBounds i true).getD d false = true ∨ S2 w) → wpAnyG P md ops Q S1 S2 d fuel (L.setIfInBounds i true) a w) → K' a w) → if Region.wanted o (yielded ops a.tmps) = true then Oper.wp P o a w K' Q else K' (a.put o.dst undef) w)
    (hs : AllG P md ops Q S1 S2 d fuel L a w rs) : AllG P md ops Q S1 S2 d fuel L a w (i :: rs) := fun j hj => by
  rcases List.mem_cons.1 hj with rfl | hj
  · exact wpOp_step ho (fun K' hK => h K' (fun a w hS hW => hK a w ⟨hS, hW hS⟩))
  · exact hs j hj
theorem wpAnyG_ready {rs : List Nat} {fuel : Nat} {L : Array Bool} {a : Act} {w : World} (hr : Region.ready md ops L = rs) (hne : rs ≠ [])
    (h : AllG P md ops Q S1 S2 d fuel L a w rs) : wpAnyG P md ops Q S1 S2 d (fuel + 1) L a w := ⟨fun h0 => absurd (hr ▸ h0) hne, hr ▸ h⟩
theorem wpAnyG_done {L : Array Bool} {a : Act} {w : World} (hr : Region.ready md ops L = []) (h : Q .normal a w) : ∀ fuel, wpAnyG P md ops Q S1 S2 d fuel L a w
  | 0 => ⟨hr, h⟩
  | _ + 1 => ⟨fun _ => h, by rw [hr]; simp⟩
/-- The beginning. -/
theorem wp_region_G {id : Nat} {a : Act} {w : World} (hm : P.follows .mixedOrders = true) (h1 : S1 w.drew) (h2 : S2 w.drew)
    (h : S1 w.drew ∧ ((Array.replicate ops.size false).getD d false = true ∨ S2 w.drew) → wpAnyG P .any ops Q S1 S2 d ops.size (Array.replicate ops.size false) a w.drew) : (Code.region id ops true).wp P Q a w :=
  wp_region_any hm (wpAny_of_G _ _ _ _ (h ⟨h1, .inr h2⟩))
end
end Go.Proofs.YtcnlonaighlmbaaGreatDoor

namespace Go.Proofs.YtcnlonaighlmbaaGreatDoor
open Go

section
variable {P : Program} {ops : Array Oper} {Q : Exit → Act → World → Prop} {md : Region.Mode} {S1 S2 : World → Prop} {d : Nat}
theorem wpAnyG_take1d {i dd : Nat} {oi : Oper} {v : Value} {fuel : Nat} {L : Array Bool} {a : Act} {w : World} (hi : ops[i]? = some oi) (hd : oi.dst = some dd)
    (hs : Region.noSelect ops = true) (hf : Region.free md ops L i = true) (hr : (Region.ready md ops L).contains i = true) (hdi : (d == i) = false)
    (hQ : ∀ c a w, Q (.panic c) (a.put oi.dst v) w → Q (.panic c) a w) (hy : YieldsIf P ops S1 oi v a) (hT : S1 w ∧ (L.getD d false = true ∨ S2 w))
    (h : S1 w ∧ ((L.setIfInBounds i true).getD d false = true ∨ S2 w) → wpAnyG P md ops Q S1 S2 d fuel (L.setIfInBounds i true) (a.put (some dd) v) w) : wpAnyG P md ops Q S1 S2 d (fuel + 1) L a w :=
  wpAnyG_take1 hi hs hf hr hdi hQ hy hT (by rw [hd]; exact h)
end
end Go.Proofs.YtcnlonaighlmbaaGreatDoor
