/- Plain: places on a scale, shares that add up to a thousand, sectors of a circle. -/
import Derived.Test.YtigeipjkcidleaaGreatDoorRows
import Derived.Test.YtigeipjkcidleaaGreatDoorLoc
import Derived.WalkKit
import Derived.WalkLawsBesides
import Derived.Outline
import Derived.Lib.Hide
import Derived.Deep.Cut
import Derived.IntWalk
import Derived.Deep.QuietTactic
import Derived.BigQuiet
import Derived.Deep.RegionWith
import Derived.Deep.RegionHeld3
import Derived.StillTailTactics
import Derived.Handy
import Derived.Deep.CutRange
import Derived.Test.YtigeipjkcidleaaGreatDoorRow
namespace Go.Proofs.YtigeipjkcidleaaGreatDoor
namespace Tc

/-- How far a value is on a scale from 0 to hi of a length. -/
def plc (v hi long : Int) : Int := (2 * v * long + hi) / (2 * hi)
theorem plc_rng {v hi long : Int} (h0 : 0 ≤ v) (h1 : v ≤ hi) (h2 : 0 < hi) (h3 : 0 ≤ long) : 0 ≤ plc v hi long ∧ plc v hi long ≤ long := by
  unfold plc
  have a : 0 ≤ v * long := Int.mul_nonneg h0 h3
  have b : v * long ≤ hi * long := Int.mul_le_mul_of_nonneg_right h1 h3
  constructor
  · exact Int.ediv_nonneg (by rw [Int.mul_assoc]; omega) (by omega)
  · rw [Int.ediv_le_iff_le_mul (by omega)]
    have e : long * (2 * hi) = 2 * (hi * long) := by rw [Int.mul_comm long, Int.mul_assoc]
    rw [e, Int.mul_assoc]
    omega
theorem plc_mono {u v hi long : Int} (h0 : u ≤ v) (h2 : 0 < hi) (h3 : 0 ≤ long) : plc u hi long ≤ plc v hi long := by
  unfold plc
  refine Int.ediv_le_ediv (by omega) ?_
  have b : u * long ≤ v * long := Int.mul_le_mul_of_nonneg_right h0 h3
  rw [Int.mul_assoc, Int.mul_assoc 2 v]
  omega

/-- The sum of a list. -/
def sm : List Int → Int
  | [] => 0
  | x :: t => x + sm t
theorem sm_app (a b : List Int) : sm (a ++ b) = sm a + sm b := by
  induction a with
  | nil => simp [sm]
  | cons x t ih => simp only [List.cons_append, sm, ih]; omega
theorem sm_nonneg {l : List Int} (h : ∀ x ∈ l, 0 ≤ x) : 0 ≤ sm l := by
  induction l with
  | nil => exact Int.le_refl _
  | cons x t ih =>
    have := ih fun y hy => h y (by simp [hy])
    have := h x (by simp)
    simp only [sm]
    omega
theorem le_sm {l : List Int} (h : ∀ x ∈ l, 0 ≤ x) : ∀ x ∈ l, x ≤ sm l := by
  induction l with
  | nil => intro x hx; simp at hx
  | cons y t ih =>
    have h1 := sm_nonneg (l := t) fun z hz => h z (by simp [hz])
    have h2 := h y (by simp)
    intro x hx
    simp only [sm]
    rcases List.mem_cons.1 hx with rfl | hx
    · omega
    · have := ih (fun z hz => h z (by simp [hz])) x hx
      omega
theorem sm_set : ∀ (l : List Int) (k : Nat) (h : k < l.length) (x : Int), sm (l.set k x) = sm l - l[k] + x
  | y :: t, 0, _, x => by simp only [List.set_cons_zero, sm, List.getElem_cons_zero]; omega
  | y :: t, k + 1, h, x => by
    have := sm_set t k (by simpa using h) x
    simp only [List.set_cons_succ, sm, List.getElem_cons_succ, this]
    omega
theorem sm_take_succ (l : List Int) (k : Nat) (h : k < l.length) : sm (l.take (k + 1)) = sm (l.take k) + l[k] := by
  rw [List.take_succ_eq_append_getElem h, sm_app]
  simp [sm]
theorem sm_take_le {l : List Int} (h : ∀ x ∈ l, 0 ≤ x) (k : Nat) : 0 ≤ sm (l.take k) ∧ sm (l.take k) ≤ sm l := by
  have e : sm l = sm (l.take k) + sm (l.drop k) := by rw [← sm_app, List.take_append_drop]
  have h1 := sm_nonneg (l := l.take k) fun x hx => h x (List.mem_of_mem_take hx)
  have h2 := sm_nonneg (l := l.drop k) fun x hx => h x (List.mem_of_mem_drop hx)
  omega
/-- The shares rounded down leave less than one for each. -/
theorem shr_left (all : Int) (ha : 0 < all) : ∀ l : List Int, (∀ x ∈ l, 0 ≤ x) → sm (l.map fun n => 1000 * n / all) * all ≤ 1000 * sm l ∧ 1000 * sm l ≤ sm (l.map fun n => 1000 * n / all) * all + l.length * (all - 1)
  | [], _ => by simp [sm]
  | x :: t, h => by
    have ih := shr_left all ha t fun y hy => h y (by simp [hy])
    have h1 := Int.mul_ediv_add_emod (1000 * x) all
    have h2 := Int.emod_nonneg (1000 * x) (show all ≠ 0 by omega)
    have h3 := Int.emod_lt_of_pos (1000 * x) ha
    simp only [List.map_cons, sm, List.length_cons]
    rw [Int.add_mul, show (1000 * x / all) * all = all * (1000 * x / all) from Int.mul_comm _ _]
    push_cast
    rw [Int.add_mul, Int.one_mul]
    omega
theorem shr_rng (all : Int) (ha : 0 < all) (l : List Int) (h : ∀ x ∈ l, 0 ≤ x) (hs : sm l = all) (hl : 0 < l.length) : sm (l.map fun n => 1000 * n / all) ≤ 1000 ∧ 1000 - sm (l.map fun n => 1000 * n / all) < l.length := by
  obtain ⟨h1, h2⟩ := shr_left all ha l h
  rw [hs] at h1 h2
  generalize sm (l.map fun n => 1000 * n / all) = s at *
  constructor
  · exact Int.le_of_mul_le_mul_right h1 ha
  · have h3 : (1000 - s) * all ≤ l.length * (all - 1) := by rw [Int.sub_mul]; omega
    rcases (show 1000 - s < l.length ∨ (l.length : Int) ≤ 1000 - s by omega) with h4 | h4
    · exact h4
    · exfalso
      have h5 : (l.length : Int) * all ≤ (1000 - s) * all := Int.mul_le_mul_of_nonneg_right h4 (by omega)
      have h6 : (l.length : Int) * (all - 1) = l.length * all - l.length := by rw [Int.mul_sub, Int.mul_one]
      omega
/-- How many are marked. -/
def cnt : List Bool → Nat
  | [] => 0
  | b :: t => (if b then 1 else 0) + cnt t
theorem cnt_false {l : List Bool} (h : cnt l < l.length) : ∃ k, ∃ hk : k < l.length, l[k] = false := by
  induction l with
  | nil => simp at h
  | cons b t ih =>
    cases b with
    | false => exact ⟨0, by simp, rfl⟩
    | true =>
      obtain ⟨k, hk, e⟩ := ih (by simp only [cnt, List.length_cons, if_true] at h; omega)
      exact ⟨k + 1, by simpa using hk, by simpa using e⟩
theorem cnt_set : ∀ (l : List Bool) (k : Nat) (h : k < l.length), l[k] = false → cnt (l.set k true) = cnt l + 1
  | b :: t, 0, _, e => by
    simp only [List.getElem_cons_zero] at e
    subst e
    simp only [List.set_cons_zero, cnt, if_true]
    simp
    omega
  | b :: t, k + 1, h, e => by
    have := cnt_set t k (by simpa using h) (by simpa using e)
    simp only [List.set_cons_succ, cnt, this]
    omega
theorem cnt_rep (n : Nat) : cnt (List.replicate n false) = 0 := by
  induction n with
  | zero => rfl
  | succ n ih => rw [List.replicate_succ, cnt, ih]; rfl
/-- The last sector ends where the circle is full. -/
theorem sec_full {all : Int} (h : 0 < all) : (2 * all * 3600 + all) / (2 * all) = 3600 := by
  rw [show 2 * all * 3600 + all = all + 2 * all * 3600 by omega, Int.add_mul_ediv_left _ _ (by omega), Int.ediv_eq_zero_of_lt (by omega) (by omega)]
  rfl
end Tc
end Go.Proofs.YtigeipjkcidleaaGreatDoor

namespace Go.Proofs.YtigeipjkcidleaaGreatDoor
open Go.RowKit

theorem tret {a b : Int} (h : a = b) : Ending.returned (.int .i64 a) = .returned (.int .i64 b) := by rw [h]
theorem bdn {B : Nat} {w w' : World} (h : Below B w w') (n : Nat) : Below B w (w'.drewN n) := ⟨h.os, h.tape, h.output, h.size, h.block⟩
theorem bel2 {w w1 w2 : World} (h1 : Below w.heap.size w w1) (h2 : Below w1.heap.size w1 w2) : Below w.heap.size w w2 := h1.trans (h2.mono h1.size)
theorem tdiv_lo {a b : Int} (hb : 0 < b) (h : a.tmod b < 0) : a.tdiv b - 1 = a / b := by
  rw [Int.tmod_eq_emod] at h
  rw [Int.tdiv_eq_ediv]
  have h1 := Int.emod_nonneg a (show b ≠ 0 by omega)
  split at h
  · omega
  · rename_i hn
    rw [if_neg hn, Int.sign_eq_one_of_pos hb]
    omega
theorem tdiv_hi {a b : Int} (hb : 0 < b) (h : ¬ a.tmod b < 0) : a.tdiv b = a / b := by
  rw [Int.tmod_eq_emod] at h
  rw [Int.tdiv_eq_ediv]
  have h1 := Int.emod_lt_of_pos a hb
  split at h
  · rename_i hn
    rw [if_pos hn]
    omega
  · rw [Int.natAbs_of_nonneg (by omega)] at h
    omega
theorem tdiv_rng {a b : Int} (_hb : 0 < b) (ha : -4611686018427387904 ≤ a ∧ a ≤ 4611686018427387904) : -4611686018427387904 ≤ a.tdiv b ∧ a.tdiv b ≤ 4611686018427387904 := by
  have h1 : (a.tdiv b).natAbs ≤ a.natAbs := Int.natAbs_tdiv_le_natAbs _ _
  omega
set_option maxHeartbeats 1000000 in
theorem sfloor_any (a b : Int) (w : World) (ha : -4611686018427387904 ≤ a ∧ a ≤ 4611686018427387904) (hb : 0 < b) (hb2 : b ≤ 4611686018427387904) :
    Calls Tryz.prog 43 #[.int .i64 a, .int .i64 b] w fun e w' => e = .returned (.int .i64 (a / b)) ∧ w = w' := by
  have hr := tdiv_rng hb ha
  have hm : -b < a.tmod b ∧ a.tmod b < b := by
    have h1 := Int.tmod_lt_of_pos a hb
    have h2 := Int.lt_tmod_of_pos a hb
    omega
  have hb1 : 1 ≤ b := by omega
  by_cases hlt : a.tmod b < 0
  · have HE := Lib.hid (tdiv_lo hb hlt)
    go_enter Tryz.func43, Tryz.ntmps43
    go_wp2
    go_ret
    exact ⟨tret HE.out, rfl⟩
  · have HE := Lib.hid (tdiv_hi hb hlt)
    go_enter Tryz.func43, Tryz.ntmps43
    go_wp2
    go_ret
    exact ⟨tret HE.out, rfl⟩
/-- A scale from 0 on. -/
structure ScOk (hi st : Int) : Prop where
  h0 : 0 < hi
  h1 : hi ≤ 4000000000000
  s0 : 1 ≤ st
  s1 : st ≤ 4000000000000
  md : hi % st = 0
  dv : hi / st ≤ 500
set_option maxHeartbeats 1000000 in
theorem scheck_any (hi st : Int) (w : World) (h : ScOk hi st) :
    Calls Tryz.prog 44 #[.agg #[.int .i64 0, .int .i64 hi, .int .i64 st]] w fun e w' => e = .returned (.int .i64 0) ∧ Below w.heap.size w w' := by
  obtain ⟨h0, h1, s0, s1, md, dv⟩ := h
  have HF := Lib.hid fun W => sfloor_any 0 st W (by decide) (by omega) (by omega)
  rw [Int.zero_ediv] at HF
  have hz : 0 ≤ hi / st := Int.ediv_nonneg (by omega) (by omega)
  go_enter Tryz.func44, Tryz.ntmps44
  go_upto_region 5 with fail
  go_quiet ((go_at_call 43; exact Calls.quiet_of_same ((HF.out _).mono fun _ _ ⟨h1, h2⟩ => ⟨h1, h2.symm⟩)))
  go_wp2_with fail
  go_ret
  exact ⟨rfl, bdn ((Below.refl _ _).alloc (Nat.le_refl _) _) _⟩
set_option maxHeartbeats 2000000 in
theorem splace_any (hi st v long : Int) (w : World) (h : ScOk hi st) (v0 : 0 ≤ v) (v1 : v ≤ hi) (l0 : 0 ≤ long) (l1 : long ≤ 100000) :
    Calls Tryz.prog 89 #[.agg #[.int .i64 0, .int .i64 hi, .int .i64 st], .int .i64 v, .int .i64 long] w fun e w' => e = .returned (.tuple #[.int .i64 (Tc.plc v hi long), .int .i64 0]) ∧ Below w.heap.size w w' := by
  have h0 := h.h0
  have h1 := h.h1
  have p0 : 0 ≤ v * long := Int.mul_nonneg v0 l0
  have p1 : v * long ≤ 4000000000000 * 100000 := Int.mul_le_mul (by omega) l1 l0 (by decide)
  have HC := Lib.hid fun W => scheck_any hi st W h
  have HL0 := Lib.hid ((Loc.start w).alloc' rfl 64 #[.int .i64 0, .int .i64 hi, .int .i64 st])
  have HF := Lib.hid fun W => sfloor_any (2 * v * long + hi) (2 * hi) W (by rw [Int.mul_assoc]; omega) (by omega) (by omega)
  rw [show (2 * v * long + hi) / (2 * hi) = Tc.plc v hi long from rfl] at HF
  have q1 : 0 ≤ 2 * v * long := by rw [Int.mul_assoc]; omega
  have q2 : 2 * v * long ≤ 800000000000000000 := by rw [Int.mul_assoc]; omega
  clear h p0 p1
  obtain ⟨pz, hpz⟩ : ∃ z, z = Tc.plc v hi long := ⟨_, rfl⟩
  rw [← hpz] at HF ⊢
  clear hpz
  obtain ⟨x0, x1, x2, -, -, -⟩ := (HL0.out.blk (g := w.heap.size) (t := 64) (cs := #[.int .i64 0, .int .i64 hi, .int .i64 st]) (by simp)).three
  go_enter Tryz.func89, Tryz.ntmps89
  go_upto_region 6 with (go_at_call 44; (with_reducible refine (HC.out _).mono ?_); rintro e w1 ⟨rfl, hb⟩; have HL1 := Lib.hid (HL0.out.step hb); clear hb x0 x1 x2; obtain ⟨x0, x1, x2, -, -, -⟩ := (HL1.out.blk (g := w.heap.size) (t := 64) (cs := #[.int .i64 0, .int .i64 hi, .int .i64 st]) (by simp)).three)
  have z1 : IntKind.i64.wrap (v - 0) = v := by rw [Int.sub_zero]; exact IntWalk.i64_in _ (by omega)
  have z2 : IntKind.i64.wrap (hi - 0) = hi := by rw [Int.sub_zero]; exact IntWalk.i64_in _ (by omega)
  go_quiet (fail)
  clear z1 z2
  go_wp2_with (go_at_call 43; (with_reducible refine (HF.out _).mono ?_); rintro e w2 ⟨rfl, rfl⟩)
  go_ret2
  exact ⟨rfl, (HL1.out.drewN _).bel⟩
end Go.Proofs.YtigeipjkcidleaaGreatDoor

namespace Go.Proofs.YtigeipjkcidleaaGreatDoor
open Go.RowKit

theorem ceil_ex (hi s : Int) (h0 : 0 ≤ hi) (hs : 0 < s) : ∃ c : Int, 0 ≤ c ∧ hi ≤ c * s ∧ c * s ≤ hi + s ∧ (hi ≤ s → c ≤ 1) ∧ -hi / s = -c := by
  have h1 := Int.mul_ediv_add_emod (-hi) s
  have h2 := Int.emod_nonneg (-hi) (show s ≠ 0 by omega)
  have h3 := Int.emod_lt_of_pos (-hi) hs
  generalize -hi / s = x at *
  refine ⟨-x, ?_, ?_, ?_, ?_, by omega⟩
  · rcases (show 0 ≤ -x ∨ 1 ≤ x by omega) with h | h
    · exact h
    · have := Int.mul_le_mul_of_nonneg_left h (show 0 ≤ s by omega)
      omega
  · rw [Int.neg_mul, Int.mul_comm]; omega
  · rw [Int.neg_mul, Int.mul_comm]; omega
  · intro h
    rcases (show -x ≤ 1 ∨ x ≤ -2 by omega) with h4 | h4
    · exact h4
    · have := Int.mul_le_mul_of_nonneg_left h4 (show 0 ≤ s by omega)
      omega
def FindRet (hi : Int) (w : World) (e : Ending) (w' : World) : Prop := ∃ H S : Int, e = .returned (.tuple #[.agg #[.int .i64 0, .int .i64 H, .int .i64 S], .int .i64 0]) ∧ ScOk H S ∧ hi ≤ H ∧ Below w.heap.size w w'
set_option maxRecDepth 100000 in
set_option maxHeartbeats 4000000 in
theorem sfind_any (hi st : Int) (w : World) (h0 : 0 ≤ hi) (h1 : hi ≤ 10000000000) (s0 : 2 ≤ st) (s1 : st ≤ 50) :
    Calls Tryz.prog 17 #[.int .i64 0, .int .i64 hi, .int .i64 st] w (FindRet hi w) := by
  have HL0 := Lib.hid ((Loc.start w).alloc' rfl 64 #[.int .i64 0, .int .i64 0, .int .i64 0])
  go_enter Tryz.func17, Tryz.ntmps17
  go_wp2_with fail
  go_loopw [8] (fun u8 wr => ∃ q : Nat, 1 ≤ q ∧ (q : Int) ≤ 10 * hi + 10 ∧ u8 = .int .i64 q ∧ Hid (Loc w [(w.heap.size, 64, #[.int .i64 0, .int .i64 0, .int .i64 0])] wr)) (fun u _ => (10 * hi + 11 - intOf u).toNat)
  case atStart => exact ⟨1, by omega, by omega, rfl, HL0⟩
  case round =>
    obtain ⟨q, hq1, hq2, rfl, HL⟩ := hrel
    clear HL0
    have HL1 := Lib.hid (HL.out.alloc 3 #[.int .i64 1, .int .i64 2, .int .i64 5])
    clear HL
    obtain ⟨wo, rfl⟩ : ∃ wo : World, wo = wr := ⟨_, rfl⟩
    go_wp2_with fail
    go_loopw [45] (fun u wr => ∃ j : Nat, j ≤ 3 ∧ u = .int .i64 j ∧ Hid (1 ≤ j → (q : Int) < hi) ∧ Hid (Loc w [(wo.heap.size, 3, #[.int .i64 1, .int .i64 2, .int .i64 5]), (w.heap.size, 64, #[.int .i64 0, .int .i64 0, .int .i64 0])] wr)) (fun u _ => 3 - (intOf u).toNat)
    case atStart => exact ⟨0, by omega, rfl, Lib.hid (by omega), HL1⟩
    case round =>
      obtain ⟨j, hj, rfl, hq, HL⟩ := hrel
      clear HL1
      rcases (show j = 0 ∨ j = 1 ∨ j = 2 ∨ j = 3 by omega) with rfl | rfl | rfl | rfl
      · obtain ⟨c, c0, c1, c2, c3, ce⟩ := ceil_ex hi (q : Int) (by omega) (by omega)
        have HF0 := Lib.hid fun W => sfloor_any 0 (q : Int) W (by decide) (by omega) (by omega)
        rw [Int.zero_ediv] at HF0
        have HF1 := Lib.hid fun W => sfloor_any (-hi) (q : Int) W (by omega) (by omega) (by omega)
        rw [ce] at HF1
        have HQ := Lib.hid hq
        clear ce hq
        have g0 : wr.cell? ⟨wo.heap.size, 0, none⟩ = some (.int .i64 1) := (HL.out.blk (g := wo.heap.size) (t := 3) (cs := #[.int .i64 1, .int .i64 2, .int .i64 5]) (by simp)).cell 0
        by_cases hc0 : c = 0
        · subst hc0
          have hz : 1 ≤ st := by omega
          have HSC := Lib.hid (show ScOk (q : Int) (q : Int) ∧ hi ≤ (q : Int) from ⟨⟨by omega, by omega, by omega, by omega, Int.emod_self, by rw [Int.ediv_self (by omega)]; decide⟩, by omega⟩)
          clear c0 c1 c2 c3
          obtain ⟨x0, x1, x2, f0, f1, f2⟩ := (HL.out.blk (g := w.heap.size) (t := 64) (cs := #[.int .i64 0, .int .i64 0, .int .i64 0]) (by simp)).three
          obtain ⟨hbl, s0, s1, s2⟩ := (HL.out.blk (g := w.heap.size) (t := 64) (cs := #[.int .i64 0, .int .i64 0, .int .i64 0]) (by simp)).three_set (.int .i64 0) (.int .i64 (q : Int)) (.int .i64 (q : Int))
          obtain ⟨t0, t1, -, -, -, -⟩ := hbl.three
          go_wp2_with (go_at_call 43; first | ((with_reducible refine (HF0.out _).mono ?_); rintro e w2 ⟨rfl, rfl⟩) | ((with_reducible refine (HF1.out _).mono ?_); rintro e w2 ⟨rfl, rfl⟩))
          refine bodyPost_ret (v := .tuple #[.agg #[.int .i64 0, .int .i64 (q : Int), .int .i64 (q : Int)], .int .i64 0]) (by simp [results, Tryz.results17, go_sem, s2, t0, t1]) rfl ⟨_, _, rfl, HSC.out.1, HSC.out.2, ?_⟩
          exact below_three HL.out.bel (Nat.le_refl _) _ _ _
        · have hcz : ((0 : Int) == c) = false := by rw [beq_eq_false_iff_ne]; omega
          by_cases hcs : c ≤ st
          · have HSC := Lib.hid (show ScOk (c * (q : Int)) (q : Int) ∧ hi ≤ c * (q : Int) from ⟨⟨Int.mul_pos (by omega) (by omega), by omega, by omega, by omega, Int.mul_emod_left _ _, by rw [Int.mul_ediv_cancel _ (by omega)]; omega⟩, c1⟩)
            have m1 : c * (q : Int) ≤ 4000000000000 := HSC.out.1.h1
            have m0 : 0 ≤ c * (q : Int) := Int.le_of_lt HSC.out.1.h0
            have c5 : 1 ≤ c := by omega
            clear c1 c2 c3 hc0 c0
            obtain ⟨x0, x1, x2, f0, f1, f2⟩ := (HL.out.blk (g := w.heap.size) (t := 64) (cs := #[.int .i64 0, .int .i64 0, .int .i64 0]) (by simp)).three
            obtain ⟨hbl, s0, s1, s2⟩ := (HL.out.blk (g := w.heap.size) (t := 64) (cs := #[.int .i64 0, .int .i64 0, .int .i64 0]) (by simp)).three_set (.int .i64 0) (.int .i64 (c * (q : Int))) (.int .i64 (q : Int))
            obtain ⟨t0, t1, -, -, -, -⟩ := hbl.three
            go_wp2_with (go_at_call 43; first | ((with_reducible refine (HF0.out _).mono ?_); rintro e w2 ⟨rfl, rfl⟩) | ((with_reducible refine (HF1.out _).mono ?_); rintro e w2 ⟨rfl, rfl⟩))
            refine bodyPost_ret (v := .tuple #[.agg #[.int .i64 0, .int .i64 (c * (q : Int)), .int .i64 (q : Int)], .int .i64 0]) (by simp [results, Tryz.results17, go_sem, s2, t0, t1]) rfl ⟨_, _, rfl, HSC.out.1, HSC.out.2, ?_⟩
            exact below_three HL.out.bel (Nat.le_refl _) _ _ _
          · have HQ2 := Lib.hid (show (q : Int) < hi from by first | exact HQ.out (by decide) | (rcases (show hi ≤ q ∨ (q : Int) < hi by omega) with h | h; (have := c3 h; omega); exact h))
            have c6 : c ≤ 20000000000 := by
              rcases (show c ≤ 20000000000 ∨ 20000000001 ≤ c by omega) with h | h
              · exact h
              · have := Int.mul_le_mul_of_nonneg_right h (show 0 ≤ (q : Int) by omega)
                omega
            have c5 : 1 ≤ c := by omega
            clear c1 c2 c3 hc0 c0
            go_wp2_with (go_at_call 43; first | ((with_reducible refine (HF0.out _).mono ?_); rintro e w2 ⟨rfl, rfl⟩) | ((with_reducible refine (HF1.out _).mono ?_); rintro e w2 ⟨rfl, rfl⟩))
            go_roundw
            case rel => exact ⟨0 + 1, by omega, rfl, Lib.hid (fun _ => HQ2.out), HL⟩
            case measure => simp [intOf]
      · obtain ⟨c, c0, c1, c2, c3, ce⟩ := ceil_ex hi (2 * (q : Int)) (by omega) (by omega)
        have HF0 := Lib.hid fun W => sfloor_any 0 (2 * (q : Int)) W (by decide) (by omega) (by omega)
        rw [Int.zero_ediv] at HF0
        have HF1 := Lib.hid fun W => sfloor_any (-hi) (2 * (q : Int)) W (by omega) (by omega) (by omega)
        rw [ce] at HF1
        have HQ := Lib.hid hq
        clear ce hq
        have g0 : wr.cell? ⟨wo.heap.size, 1, none⟩ = some (.int .i64 2) := (HL.out.blk (g := wo.heap.size) (t := 3) (cs := #[.int .i64 1, .int .i64 2, .int .i64 5]) (by simp)).cell 1
        by_cases hc0 : c = 0
        · subst hc0
          have hz : 1 ≤ st := by omega
          have HSC := Lib.hid (show ScOk (2 * (q : Int)) (2 * (q : Int)) ∧ hi ≤ (2 * (q : Int)) from ⟨⟨by omega, by omega, by omega, by omega, Int.emod_self, by rw [Int.ediv_self (by omega)]; decide⟩, by omega⟩)
          clear c0 c1 c2 c3
          obtain ⟨x0, x1, x2, f0, f1, f2⟩ := (HL.out.blk (g := w.heap.size) (t := 64) (cs := #[.int .i64 0, .int .i64 0, .int .i64 0]) (by simp)).three
          obtain ⟨hbl, s0, s1, s2⟩ := (HL.out.blk (g := w.heap.size) (t := 64) (cs := #[.int .i64 0, .int .i64 0, .int .i64 0]) (by simp)).three_set (.int .i64 0) (.int .i64 (2 * (q : Int))) (.int .i64 (2 * (q : Int)))
          obtain ⟨t0, t1, -, -, -, -⟩ := hbl.three
          go_wp2_with (go_at_call 43; first | ((with_reducible refine (HF0.out _).mono ?_); rintro e w2 ⟨rfl, rfl⟩) | ((with_reducible refine (HF1.out _).mono ?_); rintro e w2 ⟨rfl, rfl⟩))
          refine bodyPost_ret (v := .tuple #[.agg #[.int .i64 0, .int .i64 (2 * (q : Int)), .int .i64 (2 * (q : Int))], .int .i64 0]) (by simp [results, Tryz.results17, go_sem, s2, t0, t1]) rfl ⟨_, _, rfl, HSC.out.1, HSC.out.2, ?_⟩
          exact below_three HL.out.bel (Nat.le_refl _) _ _ _
        · have hcz : ((0 : Int) == c) = false := by rw [beq_eq_false_iff_ne]; omega
          by_cases hcs : c ≤ st
          · have HSC := Lib.hid (show ScOk (c * (2 * (q : Int))) (2 * (q : Int)) ∧ hi ≤ c * (2 * (q : Int)) from ⟨⟨Int.mul_pos (by omega) (by omega), by omega, by omega, by omega, Int.mul_emod_left _ _, by rw [Int.mul_ediv_cancel _ (by omega)]; omega⟩, c1⟩)
            have m1 : c * (2 * (q : Int)) ≤ 4000000000000 := HSC.out.1.h1
            have m0 : 0 ≤ c * (2 * (q : Int)) := Int.le_of_lt HSC.out.1.h0
            have c5 : 1 ≤ c := by omega
            clear c1 c2 c3 hc0 c0
            obtain ⟨x0, x1, x2, f0, f1, f2⟩ := (HL.out.blk (g := w.heap.size) (t := 64) (cs := #[.int .i64 0, .int .i64 0, .int .i64 0]) (by simp)).three
            obtain ⟨hbl, s0, s1, s2⟩ := (HL.out.blk (g := w.heap.size) (t := 64) (cs := #[.int .i64 0, .int .i64 0, .int .i64 0]) (by simp)).three_set (.int .i64 0) (.int .i64 (c * (2 * (q : Int)))) (.int .i64 (2 * (q : Int)))
            obtain ⟨t0, t1, -, -, -, -⟩ := hbl.three
            go_wp2_with (go_at_call 43; first | ((with_reducible refine (HF0.out _).mono ?_); rintro e w2 ⟨rfl, rfl⟩) | ((with_reducible refine (HF1.out _).mono ?_); rintro e w2 ⟨rfl, rfl⟩))
            refine bodyPost_ret (v := .tuple #[.agg #[.int .i64 0, .int .i64 (c * (2 * (q : Int))), .int .i64 (2 * (q : Int))], .int .i64 0]) (by simp [results, Tryz.results17, go_sem, s2, t0, t1]) rfl ⟨_, _, rfl, HSC.out.1, HSC.out.2, ?_⟩
            exact below_three HL.out.bel (Nat.le_refl _) _ _ _
          · have HQ2 := Lib.hid (show (q : Int) < hi from by first | exact HQ.out (by decide) | (rcases (show hi ≤ q ∨ (q : Int) < hi by omega) with h | h; (have := c3 h; omega); exact h))
            have c6 : c ≤ 20000000000 := by
              rcases (show c ≤ 20000000000 ∨ 20000000001 ≤ c by omega) with h | h
              · exact h
              · have := Int.mul_le_mul_of_nonneg_right h (show 0 ≤ (2 * (q : Int)) by omega)
                omega
            have c5 : 1 ≤ c := by omega
            clear c1 c2 c3 hc0 c0
            go_wp2_with (go_at_call 43; first | ((with_reducible refine (HF0.out _).mono ?_); rintro e w2 ⟨rfl, rfl⟩) | ((with_reducible refine (HF1.out _).mono ?_); rintro e w2 ⟨rfl, rfl⟩))
            go_roundw
            case rel => exact ⟨1 + 1, by omega, rfl, Lib.hid (fun _ => HQ2.out), HL⟩
            case measure => simp [intOf]
      · obtain ⟨c, c0, c1, c2, c3, ce⟩ := ceil_ex hi (5 * (q : Int)) (by omega) (by omega)
        have HF0 := Lib.hid fun W => sfloor_any 0 (5 * (q : Int)) W (by decide) (by omega) (by omega)
        rw [Int.zero_ediv] at HF0
        have HF1 := Lib.hid fun W => sfloor_any (-hi) (5 * (q : Int)) W (by omega) (by omega) (by omega)
        rw [ce] at HF1
        have HQ := Lib.hid hq
        clear ce hq
        have g0 : wr.cell? ⟨wo.heap.size, 2, none⟩ = some (.int .i64 5) := (HL.out.blk (g := wo.heap.size) (t := 3) (cs := #[.int .i64 1, .int .i64 2, .int .i64 5]) (by simp)).cell 2
        by_cases hc0 : c = 0
        · subst hc0
          have hz : 1 ≤ st := by omega
          have HSC := Lib.hid (show ScOk (5 * (q : Int)) (5 * (q : Int)) ∧ hi ≤ (5 * (q : Int)) from ⟨⟨by omega, by omega, by omega, by omega, Int.emod_self, by rw [Int.ediv_self (by omega)]; decide⟩, by omega⟩)
          clear c0 c1 c2 c3
          obtain ⟨x0, x1, x2, f0, f1, f2⟩ := (HL.out.blk (g := w.heap.size) (t := 64) (cs := #[.int .i64 0, .int .i64 0, .int .i64 0]) (by simp)).three
          obtain ⟨hbl, s0, s1, s2⟩ := (HL.out.blk (g := w.heap.size) (t := 64) (cs := #[.int .i64 0, .int .i64 0, .int .i64 0]) (by simp)).three_set (.int .i64 0) (.int .i64 (5 * (q : Int))) (.int .i64 (5 * (q : Int)))
          obtain ⟨t0, t1, -, -, -, -⟩ := hbl.three
          go_wp2_with (go_at_call 43; first | ((with_reducible refine (HF0.out _).mono ?_); rintro e w2 ⟨rfl, rfl⟩) | ((with_reducible refine (HF1.out _).mono ?_); rintro e w2 ⟨rfl, rfl⟩))
          refine bodyPost_ret (v := .tuple #[.agg #[.int .i64 0, .int .i64 (5 * (q : Int)), .int .i64 (5 * (q : Int))], .int .i64 0]) (by simp [results, Tryz.results17, go_sem, s2, t0, t1]) rfl ⟨_, _, rfl, HSC.out.1, HSC.out.2, ?_⟩
          exact below_three HL.out.bel (Nat.le_refl _) _ _ _
        · have hcz : ((0 : Int) == c) = false := by rw [beq_eq_false_iff_ne]; omega
          by_cases hcs : c ≤ st
          · have HSC := Lib.hid (show ScOk (c * (5 * (q : Int))) (5 * (q : Int)) ∧ hi ≤ c * (5 * (q : Int)) from ⟨⟨Int.mul_pos (by omega) (by omega), by omega, by omega, by omega, Int.mul_emod_left _ _, by rw [Int.mul_ediv_cancel _ (by omega)]; omega⟩, c1⟩)
            have m1 : c * (5 * (q : Int)) ≤ 4000000000000 := HSC.out.1.h1
            have m0 : 0 ≤ c * (5 * (q : Int)) := Int.le_of_lt HSC.out.1.h0
            have c5 : 1 ≤ c := by omega
            clear c1 c2 c3 hc0 c0
            obtain ⟨x0, x1, x2, f0, f1, f2⟩ := (HL.out.blk (g := w.heap.size) (t := 64) (cs := #[.int .i64 0, .int .i64 0, .int .i64 0]) (by simp)).three
            obtain ⟨hbl, s0, s1, s2⟩ := (HL.out.blk (g := w.heap.size) (t := 64) (cs := #[.int .i64 0, .int .i64 0, .int .i64 0]) (by simp)).three_set (.int .i64 0) (.int .i64 (c * (5 * (q : Int)))) (.int .i64 (5 * (q : Int)))
            obtain ⟨t0, t1, -, -, -, -⟩ := hbl.three
            go_wp2_with (go_at_call 43; first | ((with_reducible refine (HF0.out _).mono ?_); rintro e w2 ⟨rfl, rfl⟩) | ((with_reducible refine (HF1.out _).mono ?_); rintro e w2 ⟨rfl, rfl⟩))
            refine bodyPost_ret (v := .tuple #[.agg #[.int .i64 0, .int .i64 (c * (5 * (q : Int))), .int .i64 (5 * (q : Int))], .int .i64 0]) (by simp [results, Tryz.results17, go_sem, s2, t0, t1]) rfl ⟨_, _, rfl, HSC.out.1, HSC.out.2, ?_⟩
            exact below_three HL.out.bel (Nat.le_refl _) _ _ _
          · have HQ2 := Lib.hid (show (q : Int) < hi from by first | exact HQ.out (by decide) | (rcases (show hi ≤ q ∨ (q : Int) < hi by omega) with h | h; (have := c3 h; omega); exact h))
            have c6 : c ≤ 20000000000 := by
              rcases (show c ≤ 20000000000 ∨ 20000000001 ≤ c by omega) with h | h
              · exact h
              · have := Int.mul_le_mul_of_nonneg_right h (show 0 ≤ (5 * (q : Int)) by omega)
                omega
            have c5 : 1 ≤ c := by omega
            clear c1 c2 c3 hc0 c0
            go_wp2_with (go_at_call 43; first | ((with_reducible refine (HF0.out _).mono ?_); rintro e w2 ⟨rfl, rfl⟩) | ((with_reducible refine (HF1.out _).mono ?_); rintro e w2 ⟨rfl, rfl⟩))
            go_roundw
            case rel => exact ⟨2 + 1, by omega, rfl, Lib.hid (fun _ => HQ2.out), HL⟩
            case measure => simp [intOf]
      · have := hq.out (by decide)
        have HL2 := Lib.hid (HL.out.perm (L' := [(w.heap.size, 64, #[.int .i64 0, .int .i64 0, .int .i64 0])]) (fun x hx => List.mem_cons_of_mem _ hx))
        go_wp2_with fail
        go_roundw
        case rel => exact ⟨10 * q, by omega, by omega, by go_num, HL2⟩
        case measure => simp [intOf]; omega
end Go.Proofs.YtigeipjkcidleaaGreatDoor

namespace Go.Proofs.YtigeipjkcidleaaGreatDoor
open Go.RowKit

abbrev Hd : Type := Option Addr × Nat × Nat
def hdV (h : Hd) : Value := .slice h.1 h.2.1 h.2.2
/-- A slice reads as a list of numbers. -/
abbrev RdI (W : World) (v : Value) (l : List Int) : Prop := Reads 1 (fun n => [Value.int .i64 n]) W v l
/-- A slice of slices of numbers. -/
def Rows2 (W : World) (v : Value) (L : List (List Int)) : Prop :=
  ∃ H : List Hd, H.length = L.length ∧ Reads 1 (fun h => [hdV h]) W v H ∧ ∀ i (h1 : i < H.length) (h2 : i < L.length), RdI W (hdV H[i]) L[i]
section
variable {α : Type} {f : α → Value} {W W' : World} {v : Value} {L : List (List Int)}
theorem Reads.one {A : Option Addr} {n c : Nat} {l : List α} (h : Reads 1 (fun x => [f x]) W (.slice A n c) l) : l.length = n ∧ (0 < n → ∃ b o, A = some ⟨b, o, none⟩ ∧ b < W.heap.size ∧ ∀ i (h : i < l.length), W.cell? ⟨b, o + i, none⟩ = some (f l[i])) := by
  obtain ⟨A', c', e, -, -, h3⟩ := h
  injection e with e1 e2 e3
  subst e1 e2
  refine ⟨rfl, fun h0 => ?_⟩
  obtain ⟨b, o, e, hb, hc⟩ := h3 h0
  refine ⟨b, o, e, hb, fun i hi => ?_⟩
  have := hc i hi 0 (by decide)
  rw [Nat.mul_one, Nat.add_zero] at this
  exact this
theorem Rows2.below (h : Rows2 W v L) (hb : Below W.heap.size W W') : Rows2 W' v L := by
  obtain ⟨H, h1, h2, h3⟩ := h
  exact ⟨H, h1, h2.below hb, fun i a b => (h3 i a b).below hb⟩
theorem Rows2.shape (h : Rows2 W v L) : ∃ A c, v = .slice A L.length c := by
  obtain ⟨H, h1, h2, _⟩ := h
  obtain ⟨A, c, e⟩ := h2.shape
  exact ⟨A, c, by rw [e, h1]⟩
theorem Rows2.get {A : Option Addr} {n c : Nat} (h : Rows2 W (.slice A n c) L) : L.length = n ∧ (0 < n → ∃ b o, A = some ⟨b, o, none⟩ ∧ b < W.heap.size ∧ ∀ i (hi : i < L.length), ∃ B m k, W.cell? ⟨b, o + i, none⟩ = some (.slice B m k) ∧ RdI W (.slice B m k) L[i]) := by
  obtain ⟨H, h1, h2, h3⟩ := h
  obtain ⟨e, h4⟩ := h2.one
  refine ⟨by omega, fun h0 => ?_⟩
  obtain ⟨b, o, e2, hb, h5⟩ := h4 h0
  exact ⟨b, o, e2, hb, fun i hi => ⟨_, _, _, h5 i (by omega), h3 i (by omega) hi⟩⟩
end
/-- A chart that is valid: nn names, numbers from 0 to M. -/
structure ChOk (kind : Int) (nn : Nat) (L : List (List Int)) (M : Int) : Prop where
  k : kind = 0 ∨ kind = 3
  n1 : 1 ≤ nn
  n2 : nn ≤ 200
  l1 : 1 ≤ L.length
  l2 : L.length ≤ 12
  l3 : kind = 3 → L.length = 1
  ln : ∀ l ∈ L, l.length = nn
  rg : ∀ l ∈ L, ∀ n ∈ l, 0 ≤ n ∧ n ≤ M
  m : M ≤ 83333333333
set_option maxRecDepth 100000 in
set_option maxHeartbeats 4000000 in
theorem ccheck_any (kind : Int) (NA : Option Addr) (nn nc : Nat) (SA : Option Addr) (sn sc : Nat) (L : List (List Int)) (M : Int) (w : World) (h : ChOk kind nn L M) (hs : Rows2 w (.slice SA sn sc) L) :
    Calls Tryz.prog 41 #[.agg #[.int .i64 kind, .slice NA nn nc, .slice SA sn sc]] w fun e w' => e = .returned (.int .i64 0) ∧ Below w.heap.size w w' := by
  obtain rfl := hs.get.1
  have HS := Lib.hid hs
  have HL0 := Lib.hid ((Loc.start w).alloc' rfl 51 #[.int .i64 kind, .slice NA nn nc, .slice SA L.length sc])
  have HC := Lib.hid h
  have n1 := h.n1
  have n2 := h.n2
  have l1 := h.l1
  have l2 := h.l2
  have hk := h.k
  have hk1 : kind = 3 → (L.length : Int) ≤ 1 := fun e => by rw [h.l3 e]; decide
  have nz1 : ((nn : Int) == 0) = false := by rw [beq_eq_false_iff_ne]; omega
  have nz2 : ((L.length : Int) == 0) = false := by rw [beq_eq_false_iff_ne]; omega
  have hm := h.m
  clear h hs
  rcases hk with rfl | rfl
  case' inr => have hk2 := hk1 rfl
  all_goals
    clear hk1
    go_enter Tryz.func41, Tryz.ntmps41
    go_wp2_with fail
    go_loopw [47] (fun u wr => ∃ i : Nat, i ≤ L.length ∧ u = .int .i64 i ∧ Hid (Loc w [(w.heap.size, 51, #[.int .i64 _, .slice NA nn nc, .slice SA L.length sc])] wr)) (fun u _ => L.length - (intOf u).toNat)
    case atStart => exact ⟨0, Nat.zero_le _, rfl, HL0⟩
    case round =>
      obtain ⟨i, hi, rfl, HL⟩ := hrel
      obtain ⟨x0, x1, x2, -, -, -⟩ := (HL.out.blk (List.mem_cons_self ..)).three
      by_cases hlt : i < L.length
      · obtain ⟨b, o, rfl, hbl, hrow⟩ := ((HS.out.below HL.out.bel).get).2 (by omega)
        obtain ⟨B, m, k, c0, hr⟩ := hrow i hlt
        obtain ⟨e1, hr⟩ := hr.one
        obtain ⟨l, hl⟩ : ∃ l, l = L[i] := ⟨_, rfl⟩
        rw [← hl] at e1 hr
        have hm : l ∈ L := by rw [hl]; exact List.getElem_mem hlt
        have hln := HC.out.ln l hm
        have hrg := HC.out.rg l hm
        obtain rfl : m = nn := by omega
        clear hl hrow hm hbl
        have HR := Lib.hid hr
        have HG := Lib.hid hrg
        have HLN := Lib.hid hln
        clear hr hrg hln e1
        go_wp2_with fail
        obtain ⟨wo, rfl⟩ : ∃ wo : World, wo = wr := ⟨_, rfl⟩
        go_loopw [59] (fun u wr => ∃ j : Nat, j ≤ m ∧ u = .int .i64 j ∧ Hid (Loc w [(w.heap.size, 51, #[.int .i64 _, .slice NA m nc, .slice (some ⟨b, o, none⟩) L.length sc])] wr) ∧ Hid (Below wo.heap.size wo wr)) (fun u _ => m - (intOf u).toNat)
        case atStart => exact ⟨0, Nat.zero_le _, rfl, HL, Lib.hid (Below.refl _ _)⟩
        case round =>
          clear x0 x1 x2 c0 HL
          obtain ⟨j, hj, rfl, HL, HB⟩ := hrel
          obtain ⟨x0, x1, x2, -, -, -⟩ := (HL.out.blk (List.mem_cons_self ..)).three
          by_cases hlj : j < m
          · obtain ⟨b2, o2, rfl, hlt2, hc⟩ := HR.out (by omega)
            have hjl : j < l.length := by have := HLN.out; omega
            have c1 := (HB.out.cell (p := ⟨b2, o2 + j, none⟩) hlt2).trans (hc j hjl)
            obtain ⟨y0, y1⟩ := HG.out _ (List.getElem_mem hjl)
            obtain ⟨y, hy⟩ : ∃ y, y = l[j] := ⟨_, rfl⟩
            rw [← hy] at c1 y0 y1
            clear hy hc
            go_wp2_with fail
            go_roundw
            case rel => exact ⟨j + 1, by omega, by go_num, HL, HB⟩
            case measure => simp [intOf]; omega
          · go_wp2_with fail
            go_roundw
            case rel => exact ⟨i + 1, by omega, by go_num, HL⟩
            case measure => simp [intOf]; omega
      · go_wp2_with fail
        go_ret
        exact ⟨rfl, HL.out.bel⟩
end Go.Proofs.YtigeipjkcidleaaGreatDoor

namespace Go.Proofs.YtigeipjkcidleaaGreatDoor
open Go.RowKit

/-- The greatest number, or 0. -/
structure IsMx (L : List (List Int)) (hi : Int) : Prop where
  h0 : 0 ≤ hi
  up : ∀ l ∈ L, ∀ n ∈ l, n ≤ hi
  ex : hi = 0 ∨ ∃ l ∈ L, hi ∈ l
theorem IsMx.le {L : List (List Int)} {hi M : Int} (h : IsMx L hi) (h0 : 0 ≤ M) (hM : ∀ l ∈ L, ∀ n ∈ l, n ≤ M) : hi ≤ M := by
  rcases h.ex with e | ⟨l, hl, hn⟩
  · omega
  · exact hM l hl hi hn
/-- .. of those before a place: columns before i, and of column i the rows before q. -/
structure PMx (L : List (List Int)) (i q : Nat) (hi : Int) : Prop where
  h0 : 0 ≤ hi
  up : ∀ k (hk : k < L.length) j (hj : j < L[k].length), (j < i ∨ j = i ∧ k < q) → L[k][j] ≤ hi
  ex : hi = 0 ∨ ∃ l ∈ L, hi ∈ l
theorem PMx.zero (L : List (List Int)) : PMx L 0 0 0 := ⟨Int.le_refl _, fun k hk j hj h => by omega, .inl rfl⟩
theorem PMx.more {L : List (List Int)} {i q : Nat} {hi y : Int} (h : PMx L i q hi) (hq : q < L.length) (hi2 : i < L[q].length) (hy : y = L[q][i]) (hlt : hi < y) : PMx L i (q + 1) y := by
  subst hy
  refine ⟨by have := h.h0; omega, fun k hk j hj hh => ?_, .inr ⟨_, List.getElem_mem hq, List.getElem_mem hi2⟩⟩
  by_cases e : j = i ∧ k = q
  · obtain ⟨rfl, rfl⟩ := e
    exact Int.le_refl _
  · have := h.up k hk j hj (by omega)
    omega
theorem PMx.same {L : List (List Int)} {i q : Nat} {hi y : Int} (h : PMx L i q hi) (hq : q < L.length) (hi2 : i < L[q].length) (hy : y = L[q][i]) (hlt : ¬ hi < y) : PMx L i (q + 1) hi := by
  subst hy
  refine ⟨h.h0, fun k hk j hj hh => ?_, h.ex⟩
  by_cases e : j = i ∧ k = q
  · obtain ⟨rfl, rfl⟩ := e
    omega
  · exact h.up k hk j hj (by omega)
theorem PMx.next {L : List (List Int)} {i q : Nat} {hi : Int} (h : PMx L i q hi) (hq : L.length ≤ q) : PMx L (i + 1) 0 hi :=
  ⟨h.h0, fun k hk j hj hh => h.up k hk j hj (by omega), h.ex⟩
theorem PMx.all {L : List (List Int)} {i q : Nat} {hi : Int} (h : PMx L i q hi) (hl : ∀ l ∈ L, l.length ≤ i) : IsMx L hi := by
  refine ⟨h.h0, fun l hm n hn => ?_, h.ex⟩
  obtain ⟨k, hk, rfl⟩ := List.mem_iff_getElem.1 hm
  obtain ⟨j, hj, rfl⟩ := List.mem_iff_getElem.1 hn
  exact h.up k hk j hj (.inl (by have := hl _ hm; omega))
def RangeRet (L : List (List Int)) (w : World) (e : Ending) (w' : World) : Prop := ∃ hi : Int, e = .returned (.tuple #[.int .i64 0, .int .i64 hi, .int .i64 0]) ∧ IsMx L hi ∧ Below w.heap.size w w'
set_option maxRecDepth 100000 in
set_option maxHeartbeats 8000000 in
theorem crange_any (NA : Option Addr) (nn nc : Nat) (SA : Option Addr) (sn sc : Nat) (L : List (List Int)) (M : Int) (w : World) (h : ChOk 0 nn L M) (hs : Rows2 w (.slice SA sn sc) L) :
    Calls Tryz.prog 16 #[.agg #[.int .i64 0, .slice NA nn nc, .slice SA sn sc]] w (RangeRet L w) := by
  obtain rfl := hs.get.1
  have HS := Lib.hid hs
  have HL0 := Lib.hid ((Loc.start w).alloc' rfl 51 #[.int .i64 0, .slice NA nn nc, .slice SA L.length sc])
  have HC := Lib.hid h
  have HCK := Lib.hid fun W hW => ccheck_any 0 NA nn nc SA L.length sc L M W h (hs.below hW)
  have n1 := h.n1
  have n2 := h.n2
  have l1 := h.l1
  have l2 := h.l2
  clear h hs
  obtain ⟨x0, x1, x2, -, -, -⟩ := (HL0.out.blk (List.mem_cons_self ..)).three
  go_enter Tryz.func16, Tryz.ntmps16
  go_wp2_with (go_at_call 41; (with_reducible refine (HCK.out _ HL0.out.bel).mono ?_); rintro e w1 ⟨rfl, hb⟩; have HL1 := Lib.hid (HL0.out.step hb); clear hb x0 x1 x2; obtain ⟨x0, x1, x2, -, -, -⟩ := (HL1.out.blk (List.mem_cons_self ..)).three)
  clear x0 x1 x2
  go_loopw [6, 7, 35] (fun u6 u7 u wr => ∃ (i : Nat) (hi : Int), i ≤ nn ∧ u = .int .i64 i ∧ u6 = .int .i64 0 ∧ u7 = .int .i64 hi ∧ 0 ≤ hi ∧ hi ≤ 83333333333 ∧ Hid (PMx L i 0 hi) ∧ Hid (Loc w [(w.heap.size, 51, #[.int .i64 0, .slice NA nn nc, .slice SA L.length sc])] wr)) (fun _ _ u _ => nn - (intOf u).toNat)
  case atStart => exact ⟨0, 0, Nat.zero_le _, rfl, rfl, rfl, by decide, by decide, Lib.hid (PMx.zero L), HL1⟩
  case round =>
    clear HL0 HL1 HCK
    obtain ⟨i, hi, hil, rfl, rfl, rfl, hh0, hh1, HP, HL⟩ := hrel
    obtain ⟨wo, rfl⟩ : ∃ wo : World, wo = wr := ⟨_, rfl⟩
    obtain ⟨x0, x1, x2, -, -, -⟩ := (HL.out.blk (List.mem_cons_self ..)).three
    by_cases hlt : i < nn
    · go_wp2_with fail
      go_loopw [6, 7, 9, 41] (fun u6 u7 u9 u wr => ∃ (q : Nat) (hi s : Int), q ≤ L.length ∧ u = .int .i64 q ∧ u6 = .int .i64 0 ∧ u7 = .int .i64 hi ∧ u9 = .int .i64 s ∧ 0 ≤ hi ∧ hi ≤ 83333333333 ∧ 0 ≤ s ∧ s ≤ q * 83333333333 ∧ Hid (PMx L i q hi) ∧ Hid (Loc w [(w.heap.size, 51, #[.int .i64 0, .slice NA nn nc, .slice SA L.length sc])] wr)) (fun _ _ _ u _ => L.length - (intOf u).toNat)
      case atStart => exact ⟨0, hi, 0, Nat.zero_le _, rfl, rfl, rfl, rfl, hh0, hh1, by decide, by decide, HP, HL⟩
      case round =>
        clear x0 x1 x2 HL HP hh0 hh1
        obtain ⟨q, hi, s, hql, rfl, rfl, rfl, rfl, hh0, hh1, hs0, hs1, HP, HL⟩ := hrel
        obtain ⟨x0, x1, x2, -, -, -⟩ := (HL.out.blk (List.mem_cons_self ..)).three
        by_cases hlq : q < L.length
        · obtain ⟨b, o, rfl, hbl, hrow⟩ := ((HS.out.below HL.out.bel).get).2 (by omega)
          obtain ⟨B, m, k, c0, hr⟩ := hrow q hlq
          obtain ⟨e1, hr⟩ := hr.one
          have hm : L[q] ∈ L := List.getElem_mem hlq
          have hln := HC.out.ln _ hm
          have hil2 : i < L[q].length := by omega
          obtain ⟨b2, o2, rfl, hlt2, hc⟩ := hr (by omega)
          have c1 := hc i hil2
          obtain ⟨y0, y1⟩ := HC.out.rg _ hm _ (List.getElem_mem hil2)
          obtain ⟨y, hy⟩ : ∃ y, y = L[q][i] := ⟨_, rfl⟩
          rw [← hy] at c1 y0 y1
          have y2 : y ≤ 83333333333 := by have := HC.out.m; omega
          obtain rfl : m = nn := by omega
          have HPa := Lib.hid fun hcm : hi < y => HP.out.more hlq hil2 hy hcm
          have HPb := Lib.hid fun hcm : ¬ hi < y => HP.out.same hlq hil2 hy hcm
          clear hbl hrow hr hc hln e1 y1 hy hil2 HP hm
          by_cases hcm : hi < y
          · have HP2 := Lib.hid (HPa.out hcm)
            clear HPa HPb
            go_upto_region 16 with fail
            go_quiet (fail)
            go_wp2_with fail
            go_roundw
            case rel => exact ⟨q + 1, y, s + y, by omega, by go_num, rfl, rfl, rfl, y0, y2, by omega, by omega, HP2, Lib.hid (HL.out.drewN _)⟩
            case measure => simp [intOf]; omega
          · have HP2 := Lib.hid (HPb.out hcm)
            clear HPa HPb
            go_upto_region 16 with fail
            go_quiet (fail)
            go_wp2_with fail
            go_roundw
            case rel => exact ⟨q + 1, hi, s + y, by omega, by go_num, rfl, rfl, rfl, hh0, hh1, by omega, by omega, HP2, Lib.hid (HL.out.drewN _)⟩
            case measure => simp [intOf]; omega
        · have HP2 := Lib.hid (HP.out.next (by omega))
          go_wp2_with fail
          go_roundw
          case rel => exact ⟨i + 1, hi, by omega, by go_num, rfl, rfl, hh0, hh1, HP2, HL⟩
          case measure => simp [intOf]; omega
    · have HM := Lib.hid (HP.out.all fun l hl => by have := HC.out.ln l hl; omega)
      go_wp2_with fail
      go_ret3
      exact ⟨hi, rfl, HM.out, HL.out.bel⟩
end Go.Proofs.YtigeipjkcidleaaGreatDoor
