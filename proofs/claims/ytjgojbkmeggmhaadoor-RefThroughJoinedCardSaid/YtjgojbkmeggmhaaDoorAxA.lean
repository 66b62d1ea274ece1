/- axis.Check, lengths, Lengths. -/
import Derived.Test.YtjgojbkmeggmhaaDoorAxR
import Derived.Test.YtjgojbkmeggmhaaDoorRow
import Derived.Test.YtjgojbkmeggmhaaDoorCrG
import Derived.Test.YtjgojbkmeggmhaaDoorMem
import Derived.Test.YtjgojbkmeggmhaaDoorMem3
import Derived.Deep.Cut
import Derived.Deep.CutRange
import Derived.RegionTactic
import Derived.ChangeAlike
import Derived.Deep.QuietTactic
import Derived.BigQuiet
namespace Go.Proofs.YtjgojbkmeggmhaaDoor
open Go.RowKit

theorem mn (z : Int) : (if 2147483648 < z then 2147483648 else z) = min z 2147483648 := by split <;> omega
/-- The cells of a step. -/
def stC (s : Ax.Step) : List Value := [.int .i64 s.1, .int .i64 s.2]
abbrev Steps (w : World) (v : Value) (l : List Ax.Step) : Prop := Reads 2 stC w v l
/-- The kind of the step before. -/
def pvAt (l : List Ax.Step) (k : Nat) : Option Int := if k = 0 then none else (l[k - 1]?).map Prod.fst
theorem pvAt_succ {l : List Ax.Step} {k : Nat} (h : k < l.length) : pvAt l (k + 1) = some (l[k]).1 := by
  unfold pvAt
  rw [if_neg (by omega), Nat.add_sub_cancel, List.getElem?_eq_getElem h]
  rfl

set_option maxRecDepth 100000 in
set_option maxHeartbeats 4000000 in
theorem axis_check_max (w : World) (v : Value) (l : List Ax.Step) (hv : Steps w v l) (hl : l.length ≤ maxLen) :
    Calls Tryd.prog 35 #[v] w fun e w' => e = .returned (.int .i64 (Ax.check l)) ∧ Below w.heap.size w w' := by
  unfold maxLen at hl
  obtain ⟨A, c, rfl⟩ := hv.shape
  have HV := Lib.hid hv
  clear hv
  go_enter Tryd.func35, Tryd.ntmps35
  go_wp2_with fail
  go_loopw [3, 4, 9] (fun b a i wr => ∃ (k : Nat) (x y : Int), k ≤ l.length ∧ i = .int .i64 k ∧ b = .int .i64 x ∧ a = .int .i64 y ∧ 0 ≤ x ∧ x ≤ 2147483648 ∧ 0 ≤ y ∧ y ≤ 2147483648 ∧ Hid (Ax.check l = Ax.ck (pvAt l k) x y (l.drop k)) ∧ Below w.heap.size w wr) (fun _ _ i _ => l.length - (intOf i).toNat)
  case atStart => exact ⟨0, 0, 0, Nat.zero_le _, rfl, rfl, rfl, by decide, by decide, by decide, by decide, Lib.hid rfl, Below.refl _ _⟩
  case round =>
    obtain ⟨k, x, y, hk, rfl, rfl, rfl, hx0, hx1, hy0, hy1, hq, hb⟩ := hrel
    have HB := Lib.hid hb
    clear hb
    by_cases hlt : k < l.length
    · obtain ⟨⟨q, n⟩, htk⟩ : ∃ x, x = l[k] := ⟨_, rfl⟩
      have hd : l.drop k = (q, n) :: l.drop (k + 1) := by rw [htk]; exact List.drop_eq_getElem_cons hlt
      have hpv := pvAt_succ hlt
      rw [← htk] at hpv
      dsimp only at hpv
      have HQ := Lib.hid (show Ax.check l = if q < 0 ∨ 2 < q then 8 else if n < 1 ∨ 2147483647 < n then 2 else if Ax.badF (pvAt l k) q = true then 5 else Ax.ck (some q) (if q ≠ 1 then min (x + n) 2147483648 else x) (if q ≠ 2 then min (y + n) 2147483648 else y) (l.drop (k + 1)) from by rw [hq.out, hd, Ax.ck])
      obtain ⟨A', c', e', hc', -, hrd⟩ := (HV.out.below HB.out)
      injection e' with e1 _ e3
      subst e1 e3
      obtain ⟨b, p, rfl, hblt, hcell⟩ := hrd (by omega)
      have g0 : wr.cell? ⟨b, p + k * 2, none⟩ = some (.int .i64 q) := by have := hcell k hlt 0 (by decide); rw [← htk] at this; exact this
      have g1 : wr.cell? ⟨b, p + k * 2 + 1, none⟩ = some (.int .i64 n) := by have := hcell k hlt 1 (by decide); rw [← htk] at this; exact this
      have gp : 0 < k → ∃ j, pvAt l k = some j ∧ wr.cell? ⟨b, p + (k - 1) * 2, none⟩ = some (.int .i64 j) := fun h0 => by
        have h1 : k - 1 < l.length := by omega
        refine ⟨(l[k - 1]).1, ?_, hcell (k - 1) h1 0 (by decide)⟩
        have := pvAt_succ h1
        rw [Nat.sub_add_cancel h0] at this
        exact this
      clear hq hd htk hcell hrd
      by_cases h1 : q < 0 ∨ 2 < q
      · have HR := Lib.hid (show Ax.check l = 8 by rw [HQ.out, if_pos h1])
        clear gp hpv
        rcases Int.lt_or_le q 0 with h0 | h0
        · go_wp2_with fail
          go_ret
          exact ⟨by rw [HR.out]; rfl, HB.out.alloc HB.out.size _⟩
        · go_wp2_with fail
          go_ret
          exact ⟨by rw [HR.out]; rfl, HB.out.alloc HB.out.size _⟩
      have hq0 : 0 ≤ q := by omega
      have hq2 : q ≤ 2 := by omega
      by_cases h2 : n < 1 ∨ 2147483647 < n
      · have HR := Lib.hid (show Ax.check l = 2 by rw [HQ.out, if_neg h1, if_pos h2])
        clear gp hpv h1
        rcases Int.lt_or_le n 1 with h0 | h0
        · go_wp2_with fail
          go_ret
          exact ⟨by rw [HR.out]; rfl, HB.out.alloc HB.out.size _⟩
        · go_wp2_with fail
          go_ret
          exact ⟨by rw [HR.out]; rfl, HB.out.alloc HB.out.size _⟩
      have hn0 : 1 ≤ n := by omega
      have hn2 : n ≤ 2147483647 := by omega
      have HQ1 := Lib.hid (show Ax.check l = if Ax.badF (pvAt l k) q = true then 5 else Ax.ck (some q) (if q ≠ 1 then min (x + n) 2147483648 else x) (if q ≠ 2 then min (y + n) 2147483648 else y) (l.drop (k + 1)) from by rw [HQ.out, if_neg h1, if_neg h2])
      clear h1 h2 HQ
      rcases Nat.eq_zero_or_pos k with hk0 | hk0
      · clear gp
        have hpn : pvAt l k = none := if_pos hk0
        subst hk0
        rw [Nat.zero_mul, Nat.add_zero] at g0 g1
        have HR := Lib.hid (show Ax.check l = Ax.ck (some q) (if q ≠ 1 then min (x + n) 2147483648 else x) (if q ≠ 2 then min (y + n) 2147483648 else y) (l.drop (0 + 1)) from by rw [HQ1.out, if_neg (by rw [hpn]; simp [Ax.badF])])
        clear HQ1 hpn
        go_upto_region 9 with (fail)
        go_quiet (fail)
        rcases (show q = 0 ∨ q = 1 ∨ q = 2 by omega) with rfl | rfl | rfl
        · go_wp2_with fail
          exact ⟨⟨0 + 1, min (x + n) 2147483648, min (y + n) 2147483648, by omega, by go_num, (by first | rfl | rw [mn]), (by first | rfl | rw [mn]), by omega, by omega, by omega, by omega, Lib.hid (by rw [HR.out, hpv]; simp), below_drewN (HB.out.alloc HB.out.size _) _⟩, by simp [intOf]; omega⟩
        · go_wp2_with fail
          exact ⟨⟨0 + 1, x, min (y + n) 2147483648, by omega, by go_num, rfl, (by first | rfl | rw [mn]), by omega, by omega, by omega, by omega, Lib.hid (by rw [HR.out, hpv]; simp), below_drewN (HB.out.alloc HB.out.size _) _⟩, by simp [intOf]; omega⟩
        · go_wp2_with fail
          exact ⟨⟨0 + 1, min (x + n) 2147483648, y, by omega, by go_num, (by first | rfl | rw [mn]), rfl, by omega, by omega, by omega, by omega, Lib.hid (by rw [HR.out, hpv]; simp), below_drewN (HB.out.alloc HB.out.size _) _⟩, by simp [intOf]; omega⟩
      obtain ⟨j, hj, gj⟩ := gp hk0
      rw [hj] at HQ1
      by_cases h1 : j = q
      · have e1 : ((j : Int) == q) = true := by rw [beq_iff_eq]; exact h1
        have HR := Lib.hid (show Ax.check l = 5 from by rw [HQ1.out, if_pos (by simp [Ax.badF, h1])])
        clear HQ1 h1
        go_upto_region 9 with (fail)
        go_quiet (fail)
        go_wp2_with fail
        go_ret
        exact ⟨by rw [HR.out]; rfl, below_drewN (HB.out.alloc HB.out.size _) _⟩
      have e1 : ((j : Int) == q) = false := by rw [beq_eq_false_iff_ne]; exact h1
      by_cases h2 : j = 2
      · have e2 : ((j : Int) == 2) = true := by rw [beq_iff_eq]; exact h2
        by_cases h3 : q = 1
        · have e3 : ((q : Int) == 1) = true := by rw [beq_iff_eq]; exact h3
          have HR := Lib.hid (show Ax.check l = 5 from by rw [HQ1.out, if_pos (by simp [Ax.badF, h2, h3])])
          clear HQ1 h1 h2 h3
          go_upto_region 9 with (fail)
          go_quiet (fail)
          go_wp2_with fail
          go_ret
          exact ⟨by rw [HR.out]; rfl, below_drewN (HB.out.alloc HB.out.size _) _⟩
        · have e3 : ((q : Int) == 1) = false := by rw [beq_eq_false_iff_ne]; exact h3
          have HR := Lib.hid (show Ax.check l = Ax.ck (some q) (if q ≠ 1 then min (x + n) 2147483648 else x) (if q ≠ 2 then min (y + n) 2147483648 else y) (l.drop (k + 1)) from by rw [HQ1.out, if_neg (by simp [Ax.badF, e1, h3])])
          clear HQ1 h1 h2 h3
          go_upto_region 9 with (fail)
          go_quiet (fail)
          rcases (show q = 0 ∨ q = 1 ∨ q = 2 by omega) with rfl | rfl | rfl
          · go_wp2_with fail
            exact ⟨⟨k + 1, min (x + n) 2147483648, min (y + n) 2147483648, by omega, by go_num, (by first | rfl | rw [mn]), (by first | rfl | rw [mn]), by omega, by omega, by omega, by omega, Lib.hid (by rw [HR.out, hpv]; simp), below_drewN (HB.out.alloc HB.out.size _) _⟩, by simp [intOf]; omega⟩
          · go_wp2_with fail
            exact ⟨⟨k + 1, x, min (y + n) 2147483648, by omega, by go_num, rfl, (by first | rfl | rw [mn]), by omega, by omega, by omega, by omega, Lib.hid (by rw [HR.out, hpv]; simp), below_drewN (HB.out.alloc HB.out.size _) _⟩, by simp [intOf]; omega⟩
          · go_wp2_with fail
            exact ⟨⟨k + 1, min (x + n) 2147483648, y, by omega, by go_num, (by first | rfl | rw [mn]), rfl, by omega, by omega, by omega, by omega, Lib.hid (by rw [HR.out, hpv]; simp), below_drewN (HB.out.alloc HB.out.size _) _⟩, by simp [intOf]; omega⟩
      · have e2 : ((j : Int) == 2) = false := by rw [beq_eq_false_iff_ne]; exact h2
        have HR := Lib.hid (show Ax.check l = Ax.ck (some q) (if q ≠ 1 then min (x + n) 2147483648 else x) (if q ≠ 2 then min (y + n) 2147483648 else y) (l.drop (k + 1)) from by rw [HQ1.out, if_neg (by simp [Ax.badF, e1, e2])])
        clear HQ1 h1 h2
        go_upto_region 9 with (fail)
        go_quiet (fail)
        rcases (show q = 0 ∨ q = 1 ∨ q = 2 by omega) with rfl | rfl | rfl
        · go_wp2_with fail
          exact ⟨⟨k + 1, min (x + n) 2147483648, min (y + n) 2147483648, by omega, by go_num, (by first | rfl | rw [mn]), (by first | rfl | rw [mn]), by omega, by omega, by omega, by omega, Lib.hid (by rw [HR.out, hpv]; simp), below_drewN (HB.out.alloc HB.out.size _) _⟩, by simp [intOf]; omega⟩
        · go_wp2_with fail
          exact ⟨⟨k + 1, x, min (y + n) 2147483648, by omega, by go_num, rfl, (by first | rfl | rw [mn]), by omega, by omega, by omega, by omega, Lib.hid (by rw [HR.out, hpv]; simp), below_drewN (HB.out.alloc HB.out.size _) _⟩, by simp [intOf]; omega⟩
        · go_wp2_with fail
          exact ⟨⟨k + 1, min (x + n) 2147483648, y, by omega, by go_num, (by first | rfl | rw [mn]), rfl, by omega, by omega, by omega, by omega, Lib.hid (by rw [HR.out, hpv]; simp), below_drewN (HB.out.alloc HB.out.size _) _⟩, by simp [intOf]; omega⟩
    · obtain rfl : k = l.length := by omega
      rcases Int.lt_or_le 2147483647 x with h1 | h1
      · have HR := Lib.hid (show Ax.check l = 3 from by rw [hq.out, List.drop_of_length_le (Nat.le_refl _), Ax.ck, if_pos (by omega)])
        go_wp2_with fail
        go_ret
        exact ⟨by rw [HR.out]; rfl, HB.out⟩
      rcases Int.lt_or_le 2147483647 y with h2 | h2
      · have HR := Lib.hid (show Ax.check l = 3 from by rw [hq.out, List.drop_of_length_le (Nat.le_refl _), Ax.ck, if_pos (by omega)])
        go_wp2_with fail
        go_ret
        exact ⟨by rw [HR.out]; rfl, HB.out⟩
      · have HR := Lib.hid (show Ax.check l = 0 from by rw [hq.out, List.drop_of_length_le (Nat.le_refl _), Ax.ck, if_neg (by omega)])
        go_wp2_with fail
        go_ret
        exact ⟨by rw [HR.out]; rfl, HB.out⟩
theorem axis_check (w : World) (v : Value) (l : List Ax.Step) (hv : Steps w v l) (hl : l.length ≤ 1000000000000) :
    Calls Tryd.prog 35 #[v] w fun e w' => e = .returned (.int .i64 (Ax.check l)) ∧ Below w.heap.size w w' :=
  axis_check_max w v l hv (by unfold maxLen; omega)
end Go.Proofs.YtjgojbkmeggmhaaDoor
