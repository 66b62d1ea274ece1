/- The contract of cellref.Print. -/
import Derived.Test.YtjgojbkmeggmhaaDoorCrG
import Derived.Test.YtjgojbkmeggmhaaDoorCrQ
import Derived.Deep.DeepCutAuto
namespace Go.Proofs.YtjgojbkmeggmhaaDoor
open Go.RowKit

theorem print_bad (r : Ref) (w : World) (hs : r.sheet.size ≤ maxLen) (h : r.check ≠ 0) :
    Calls Tryd.prog 34 #[r.v] w fun e w' => e = .returned (.tuple #[.string ByteArray.empty, .int .i64 r.check]) ∧ Below w.heap.size w w' := by
  have h' : (r.check != 0) = true := by simpa using h
  clear h
  go_enter Tryd.func34, Tryd.ntmps34
  go_wp2_with (go_at_call 15; refine (check_any r _ hs).mono ?_; rintro e w' ⟨rfl, hb⟩)
  go_ret2
  exact ⟨rfl, by rename_i hb; exact ((Below.refl _ _).alloc (Nat.le_refl _) _).trans (hb.mono (by simp))⟩

/-- The cells of a reference that a function has boxed first, in a later world of its call. -/
abbrev RefAt (w : World) (sh : ByteArray) (k ro co ro2 co2 : Int) (ar ac ar2 ac2 : Bool) (w' : World) : Prop :=
  w'.cell? ⟨w.heap.size, 0, none⟩ = some (.string sh) ∧ w'.cell? ⟨w.heap.size, 1, none⟩ = some (.int .i64 k) ∧
  w'.cell? ⟨w.heap.size, 2, none⟩ = some (.int .i64 ro) ∧ w'.cell? ⟨w.heap.size, 3, none⟩ = some (.int .i64 co) ∧
  w'.cell? ⟨w.heap.size, 4, none⟩ = some (.int .i64 ro2) ∧ w'.cell? ⟨w.heap.size, 5, none⟩ = some (.int .i64 co2) ∧
  w'.cell? ⟨w.heap.size, 6, none⟩ = some (.bool ar) ∧ w'.cell? ⟨w.heap.size, 7, none⟩ = some (.bool ac) ∧
  w'.cell? ⟨w.heap.size, 8, none⟩ = some (.bool ar2) ∧ w'.cell? ⟨w.heap.size, 9, none⟩ = some (.bool ac2) ∧ Below w.heap.size w w'

theorem cell_lt {w : World} {b o : Nat} {v : Value} (h : w.cell? ⟨b, o, none⟩ = some v) : b < w.heap.size := World.block_lt_of_cell? _ _ h

section
variable {w w1 w2 : World} {sh : ByteArray} {k ro co ro2 co2 : Int} {ar ac ar2 ac2 : Bool}
theorem RefAt.step (h : RefAt w sh k ro co ro2 co2 ar ac ar2 ac2 w1) (hb : Below w1.heap.size w1 w2) : RefAt w sh k ro co ro2 co2 ar ac ar2 ac2 w2 := by
  obtain ⟨h0, h1, h2, h3, h4, h5, h6, h7, h8, h9, hB⟩ := h
  have hl := cell_lt h0
  refine ⟨?_, ?_, ?_, ?_, ?_, ?_, ?_, ?_, ?_, ?_, below_tr hB hb⟩
  all_goals (rw [hb.cell (by exact hl)]; assumption)

theorem RefAt.bel (h : RefAt w sh k ro co ro2 co2 ar ac ar2 ac2 w1) : Below w.heap.size w w1 := h.2.2.2.2.2.2.2.2.2.2

theorem RefAt.new (hb : Below (w.alloc (.cells #[.string sh, .int .i64 k, .int .i64 ro, .int .i64 co, .int .i64 ro2, .int .i64 co2, .bool ar, .bool ac, .bool ar2, .bool ac2] 40)).heap.size (w.alloc (.cells #[.string sh, .int .i64 k, .int .i64 ro, .int .i64 co, .int .i64 ro2, .int .i64 co2, .bool ar, .bool ac, .bool ar2, .bool ac2] 40)) w2) : RefAt w sh k ro co ro2 co2 ar ac ar2 ac2 w2 := by
  have h : RefAt w sh k ro co ro2 co2 ar ac ar2 ac2 (w.alloc (.cells #[.string sh, .int .i64 k, .int .i64 ro, .int .i64 co, .int .i64 ro2, .int .i64 co2, .bool ar, .bool ac, .bool ar2, .bool ac2] 40)) := by
    refine ⟨?_, ?_, ?_, ?_, ?_, ?_, ?_, ?_, ?_, ?_, (Below.refl _ _).alloc (Nat.le_refl _) _⟩
    all_goals simp
  exact h.step hb

theorem ref_keep (hb : Below w1.heap.size w1 w2) (h0 : w1.cell? ⟨w.heap.size, 0, none⟩ = some (.string sh)) (h1 : w1.cell? ⟨w.heap.size, 1, none⟩ = some (.int .i64 k))
    (h2 : w1.cell? ⟨w.heap.size, 2, none⟩ = some (.int .i64 ro)) (h3 : w1.cell? ⟨w.heap.size, 3, none⟩ = some (.int .i64 co))
    (h4 : w1.cell? ⟨w.heap.size, 4, none⟩ = some (.int .i64 ro2)) (h5 : w1.cell? ⟨w.heap.size, 5, none⟩ = some (.int .i64 co2))
    (h6 : w1.cell? ⟨w.heap.size, 6, none⟩ = some (.bool ar)) (h7 : w1.cell? ⟨w.heap.size, 7, none⟩ = some (.bool ac))
    (h8 : w1.cell? ⟨w.heap.size, 8, none⟩ = some (.bool ar2)) (h9 : w1.cell? ⟨w.heap.size, 9, none⟩ = some (.bool ac2))
    (hB : Below w.heap.size w w1) : RefAt w sh k ro co ro2 co2 ar ac ar2 ac2 w2 := RefAt.step ⟨h0, h1, h2, h3, h4, h5, h6, h7, h8, h9, hB⟩ hb
end

set_option maxRecDepth 100000 in
set_option maxHeartbeats 2000000 in
theorem print_ok (r : Ref) (w : World) (he : Env w) (h : r.check = 0) :
    Calls Tryd.prog 34 #[r.v] w fun e w' => e = .returned (.tuple #[.string ⟨r.text.toArray⟩, .int .i64 0]) ∧ Below w.heap.size w w' := by
  obtain ⟨hk0, hk4, hn, hmm, hro, hco, hro2, hco2, hord⟩ := Ref.check_ok h
  clear hmm hord
  have hlen := Cr.nameE_len hn
  have hcheck := fun W => check_any r W (by unfold maxLen; simp at hlen; omega)
  rw [h] at hcheck
  obtain ⟨sh, k, ro, co, ro2, co2, ar, ac, ar2, ac2⟩ := r
  dsimp only at *
  generalize hT : Ref.text ⟨sh, k, ro, co, ro2, co2, ar, ac, ar2, ac2⟩ = T at *
  have HT := Lib.hid hT
  have HC := Lib.hid hcheck
  clear hT hcheck h hn
  have hsl : sh.size ≤ 200 := by simpa using hlen
  have hSl : (Cr.sheetS sh.data.toList).length ≤ 403 := Cr.sheetS_len hlen
  generalize hS : Cr.sheetS sh.data.toList = S at *
  have hS' := Lib.hid hS
  clear hS
  have l1 := Cr.colS_len co ac hco.2
  have l2 := Cr.colS_len co2 ac2 hco2.2
  have l3 := Cr.rowS_len ro ar hro.1 hro.2
  have l4 := Cr.rowS_len ro2 ar2 hro2.1 hro2.2
  go_enter Tryd.func34, Tryd.ntmps34
  go_upto_if 13 with (first | (go_at_call 15; refine (HC.out _).mono ?_; rintro e w' ⟨rfl, hb⟩; obtain ⟨c0, c1, c2, c3, c4, c5, c6, c7, c8, c9, hB⟩ := RefAt.new hb; clear hb))
  go_cut [5] (fun v wx => v = .string ⟨S.toArray⟩ ∧ RefAt w sh k ro co ro2 co2 ar ac ar2 ac2 wx)
  case first =>
    clear HT
    by_cases h0 : sh.size = 0
    · have e1 : sh.data.toList = [] := by apply List.eq_nil_of_length_eq_zero; simpa using h0
      have e2 : sh.toList.isEmpty = true := by rw [Lib.toList_data, e1]; rfl
      have e3 : S = [] := by rw [← hS'.out, e1]; rfl
      have E3 := Lib.hid e3
      have e2' : (!sh.toList.isEmpty) = false := by rw [e2]; rfl
      rw [e2']
      clear e1 e3 e2 e2'
      go_wp2_with fail
      go_meet
      exact ⟨by rw [E3.out], c0, c1, c2, c3, c4, c5, c6, c7, c8, c9, hB⟩
    have e1 : sh.data.toList ≠ [] := fun e => h0 (by simpa using congrArg List.length e)
    have e2 : sh.toList.isEmpty = false := by
      rw [Lib.toList_data]
      cases hx : sh.data.toList with
      | nil => exact absurd hx e1
      | cons a l => rfl
    have e2' : (!sh.toList.isEmpty) = true := by rw [e2]; rfl
    rw [e2']
    clear e2 e2'
    have hlx : sh.size ≤ maxLen := by unfold maxLen; omega
    cases hp : Cr.plain sh.data.toList
    · have e3 : S = 39 :: (Cr.dbl sh.data.toList ++ [39, 33]) := by rw [← hS'.out, Cr.sheetS, if_neg e1, hp]; rfl
      have E3 := Lib.hid e3
      have hrl := Cr.dbl_len sh.data.toList
      have h39 : Lib.countB sh ⟨#[39]⟩ ≤ sh.size := by
        have := Lib.countB_mul_le ⟨#[39]⟩ (by decide) sh.size sh (Nat.le_refl _)
        simpa [show (⟨#[39]⟩ : ByteArray).size = 1 from rfl] using this
      have hrep : ∀ W : World, Env W → Calls Tryd.prog 79 #[.string sh, .string ⟨#[39]⟩, .string ⟨#[39, 39]⟩] W fun e w' => e = .returned (.string ⟨(Cr.dbl sh.data.toList).toArray⟩) ∧ Below W.heap.size W w' := fun W hE => by
        obtain ⟨m, hm⟩ := hE.max
        have := Tryd.strings_ReplaceAll sh ⟨#[39]⟩ ⟨#[39, 39]⟩ m W (by omega) hm (by decide) (by
          rw [show (⟨#[39, 39]⟩ : ByteArray).size = 2 from rfl]; omega)
        rw [show (⟨#[39]⟩ : ByteArray).data.toList = [39] from rfl, show (⟨#[39, 39]⟩ : ByteArray).data.toList = [39, 39] from rfl, Cr.replaceAll_dbl] at this
        exact this
      have hE1 := he.below hB
      have b1 : ¬ 9223372036854775807 < 1 + (Cr.dbl sh.data.toList).length := by omega
      have b2 : ¬ 9223372036854775807 < 1 + (Cr.dbl sh.data.toList).length + 2 := by omega
      clear e3 e1
      have HR := Lib.hid hrep
      clear hrep
      go_wp2_with (first | (go_at_call 78; refine (plain_any _ _ hlx).mono ?_; rintro e w' ⟨rfl, rfl⟩) | (go_at_call 79; refine (HR.out _ hE1).mono ?_; rintro e w' ⟨rfl, hb⟩))
      go_meet
      exact ⟨by rw [E3.out]; congr 1, RefAt.step ⟨c0, c1, c2, c3, c4, c5, c6, c7, c8, c9, hB⟩ (by assumption)⟩
    · have e3 : S = sh.data.toList ++ [33] := by rw [← hS'.out, Cr.sheetS, if_neg e1, hp]; rfl
      have E3 := Lib.hid e3
      clear e3 e1
      go_wp2_with (first | (go_at_call 78; refine (plain_any _ _ hlx).mono ?_; rintro e w' ⟨rfl, rfl⟩))
      go_meet
      exact ⟨by rw [E3.out]; congr 1, c0, c1, c2, c3, c4, c5, c6, c7, c8, c9, hB⟩
  case rest =>
    obtain ⟨rfl, c0, c1, c2, c3, c4, c5, c6, c7, c8, c9, hB⟩ := hcut
    clear HC
    by_cases k0 : k = 0
    · subst k0
      have b0 : ¬ 9223372036854775807 < S.length + (Cr.colS co ac).length := by omega
      have b1 : ¬ 9223372036854775807 < S.length + (Cr.colS co ac).length + (Cr.rowS ro ar).length := by omega
      go_wp2_with fail
      go_region_held3 (fun w' => RefAt w sh 0 ro co ro2 co2 ar ac ar2 ac2 w') (first | assumption | ((apply RefAt.step <;> assumption); done) | ((apply ref_keep <;> first | assumption | exact (Below.refl _ _).drew); done)) (first | (go_at_call 81; refine (row_any _ _ _ (he.below ?hb0) (by omega) (by omega)).mono ?_; (case hb0 => (apply RefAt.bel; assumption)); rintro e w' ⟨rfl, hb⟩) | (go_at_call 80; refine (col_any _ _ _ (by omega) (by omega)).mono ?_; rintro e w' ⟨rfl, hb⟩))
      go_wp2_with fail
      go_ret2
      exact ⟨by rw [← HT.out]; simp [Ref.text, hS'.out, cat_cons], by apply RefAt.bel; assumption⟩
    by_cases k1 : k = 1
    · subst k1
      have b0 : ¬ 9223372036854775807 < S.length + (Cr.colS co ac).length := by omega
      have b1 : ¬ 9223372036854775807 < S.length + (Cr.colS co ac).length + (Cr.rowS ro ar).length := by omega
      have b2 : ¬ 9223372036854775807 < S.length + (Cr.colS co ac).length + (Cr.rowS ro ar).length + 1 := by omega
      have b3 : ¬ 9223372036854775807 < S.length + (Cr.colS co ac).length + (Cr.rowS ro ar).length + 1 + (Cr.colS co2 ac2).length := by omega
      have b4 : ¬ 9223372036854775807 < S.length + (Cr.colS co ac).length + (Cr.rowS ro ar).length + 1 + (Cr.colS co2 ac2).length + (Cr.rowS ro2 ar2).length := by omega
      go_wp2_with fail
      go_region_held3 (fun w' => RefAt w sh 1 ro co ro2 co2 ar ac ar2 ac2 w') (first | assumption | ((apply RefAt.step <;> assumption); done) | ((apply ref_keep <;> first | assumption | exact (Below.refl _ _).drew); done)) (first | (go_at_call 81; refine (row_any _ _ _ (he.below ?hb0) (by omega) (by omega)).mono ?_; (case hb0 => (apply RefAt.bel; assumption)); rintro e w' ⟨rfl, hb⟩) | (go_at_call 80; refine (col_any _ _ _ (by omega) (by omega)).mono ?_; rintro e w' ⟨rfl, hb⟩))
      go_wp2_with fail
      go_ret2
      exact ⟨by rw [← HT.out]; simp [Ref.text, hS'.out, cat_cons], by apply RefAt.bel; assumption⟩
    by_cases k2 : k = 2
    · subst k2
      have b0 : ¬ 9223372036854775807 < S.length + (Cr.rowS ro ar).length := by omega
      have b1 : ¬ 9223372036854775807 < S.length + (Cr.rowS ro ar).length + 1 := by omega
      have b2 : ¬ 9223372036854775807 < S.length + (Cr.rowS ro ar).length + 1 + (Cr.rowS ro2 ar2).length := by omega
      go_wp2_with fail
      go_region_held3 (fun w' => RefAt w sh 2 ro co ro2 co2 ar ac ar2 ac2 w') (first | assumption | ((apply RefAt.step <;> assumption); done) | ((apply ref_keep <;> first | assumption | exact (Below.refl _ _).drew); done)) (first | (go_at_call 81; refine (row_any _ _ _ (he.below ?hb0) (by omega) (by omega)).mono ?_; (case hb0 => (apply RefAt.bel; assumption)); rintro e w' ⟨rfl, hb⟩) | (go_at_call 80; refine (col_any _ _ _ (by omega) (by omega)).mono ?_; rintro e w' ⟨rfl, hb⟩))
      go_wp2_with fail
      go_ret2
      exact ⟨by rw [← HT.out]; simp [Ref.text, hS'.out, cat_cons], by apply RefAt.bel; assumption⟩
    by_cases k3 : k = 3
    · subst k3
      have b0 : ¬ 9223372036854775807 < S.length + (Cr.colS co ac).length := by omega
      have b1 : ¬ 9223372036854775807 < S.length + (Cr.colS co ac).length + 1 := by omega
      have b2 : ¬ 9223372036854775807 < S.length + (Cr.colS co ac).length + 1 + (Cr.colS co2 ac2).length := by omega
      go_wp2_with fail
      go_region_held3 (fun w' => RefAt w sh 3 ro co ro2 co2 ar ac ar2 ac2 w') (first | assumption | ((apply RefAt.step <;> assumption); done) | ((apply ref_keep <;> first | assumption | exact (Below.refl _ _).drew); done)) (first | (go_at_call 81; refine (row_any _ _ _ (he.below ?hb0) (by omega) (by omega)).mono ?_; (case hb0 => (apply RefAt.bel; assumption)); rintro e w' ⟨rfl, hb⟩) | (go_at_call 80; refine (col_any _ _ _ (by omega) (by omega)).mono ?_; rintro e w' ⟨rfl, hb⟩))
      go_wp2_with fail
      go_ret2
      exact ⟨by rw [← HT.out]; simp [Ref.text, hS'.out, cat_cons], by apply RefAt.bel; assumption⟩
    · obtain rfl : k = 4 := by omega
      go_wp2_with fail
      go_ret2
      exact ⟨by rw [← HT.out]; rfl, hB⟩
end Go.Proofs.YtjgojbkmeggmhaaDoor
