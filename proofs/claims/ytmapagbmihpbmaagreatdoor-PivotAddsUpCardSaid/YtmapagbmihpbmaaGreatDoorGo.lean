/- value.array: Check of an array answers. -/
import Derived.Test.YtmapagbmihpbmaaGreatDoorGm
import Derived.Test.YtmapagbmihpbmaaGreatDoorGn
namespace Go.Proofs.YtmapagbmihpbmaaGreatDoor
open Go.RowKit

/-- The items of a value lie in memory. -/
def Vl.its (W : World) (v : Vl) : Prop := ∃ us : List Vl, us.length = v.n ∧ (∀ u ∈ us, u.sz) ∧ Reads 9 (fun u : Vl => u.cs.toList) W (.slice v.A v.n v.c) us
theorem Vl.its.below {w W : World} {v : Vl} (h : v.its w) (hb : Below w.heap.size w W) : v.its W := by
  obtain ⟨us, h1, h2, h3⟩ := h
  exact ⟨us, h1, h2, h3.below hb⟩
/-- Some answer. -/
def ARet (w : World) (e : Ending) (w' : World) : Prop := ∃ c : Int, e = .returned (.int .i64 c) ∧ Below w.heap.size w w'

set_option maxRecDepth 100000 in
set_option maxHeartbeats 4000000 in
theorem array_t (v : Vl) (w : World) (he : VEnv w) (hi : v.its w) : Calls Tryz.prog 63 #[v.v] w (ARet w) := by
  obtain ⟨us, hn, hs, hv⟩ := hi
  obtain ⟨k, num, den, text, on, code, rows, cols, A, n, c⟩ := v
  dsimp only at hn hv
  subst hn
  have HL0 := Lib.hid ((Loc.start w).alloc' rfl 27 #[.int .i64 k, .string num, .string den, .string text, .bool on, .int .i64 code, .int .i64 rows, .int .i64 cols, .slice A us.length c])
  have HNA := Lib.hid fun (u : Vl) W (hb : Below w.heap.size w W) (hk : u.k ≠ 5) (hm : u ∈ us) => check_na u W (he.below hb) hk (hs u hm).s1 (hs u hm).s2 (hs u hm).s3
  have HV := Lib.hid hv
  clear he hs hv
  show Calls Tryz.prog 63 #[.agg #[.int .i64 k, .string num, .string den, .string text, .bool on, .int .i64 code, .int .i64 rows, .int .i64 cols, .slice A us.length c]] w _
  by_cases hr : 1 ≤ rows ∧ rows ≤ 100000 ∧ 1 ≤ cols ∧ cols ≤ 100000
  case neg =>
    rcases (show rows < 1 ∨ (1 ≤ rows ∧ 100000 < rows) ∨ ((1 ≤ rows ∧ rows ≤ 100000) ∧ cols < 1) ∨ ((1 ≤ rows ∧ rows ≤ 100000) ∧ 1 ≤ cols ∧ 100000 < cols) by omega) with h1 | ⟨h1, h2⟩ | ⟨⟨h1, h2⟩, h3⟩ | ⟨⟨h1, h2⟩, h3, h4⟩
    all_goals
      clear hr
      go_enter Tryz.func63, Tryz.ntmps63
      go_wp2_with fail
      go_ret
      exact ⟨_, rfl, HL0.out.bel⟩
  obtain ⟨r1, r2, r3, r4⟩ := hr
  have m1 : 0 ≤ rows * cols := Int.mul_nonneg (by omega) (by omega)
  have m2 : rows * cols ≤ 10000000000 := Int.le_trans (Int.mul_le_mul r2 r4 (by omega) (by omega)) (by decide)
  by_cases h2 : rows * cols ≤ 100000
  case neg =>
    go_enter Tryz.func63, Tryz.ntmps63
    go_wp2_with fail
    go_ret
    exact ⟨_, rfl, HL0.out.bel⟩
  by_cases h3 : (us.length : Int) = rows * cols
  case neg =>
    go_enter Tryz.func63, Tryz.ntmps63
    go_wp2_with fail
    go_ret
    exact ⟨_, rfl, HL0.out.bel⟩
  have hnl : us.length ≤ 100000 := by omega
  have hb3 : ((us.length : Int) != rows * cols) = false := by rw [bne_eq_false_iff_eq]; exact h3
  clear h3
  go_enter Tryz.func63, Tryz.ntmps63
  go_wp2_with fail
  go_loopw [42] (fun i wr => ∃ j : Nat, j ≤ us.length ∧ i = .int .i64 j ∧ Below w.heap.size w wr) (fun i _ => us.length - (intOf i).toNat)
  case atStart => exact ⟨0, Nat.zero_le _, rfl, HL0.out.bel⟩
  case round =>
    obtain ⟨i, hi, rfl, hb⟩ := hrel
    clear hb3 m1 m2 r1 r2 r3 r4 h2
    have HB := Lib.hid hb
    clear hb
    by_cases hlt : i < us.length
    · skip
      obtain ⟨u, htk⟩ : ∃ x, x = us[i] := ⟨_, rfl⟩
      obtain ⟨A', c', e', hc', -, hrd⟩ := (HV.out.below HB.out)
      injection e' with e1 _ e3
      subst e1 e3
      obtain ⟨b, p, rfl, hblt, hcell⟩ := hrd (by omega)
      have HM := Lib.hid (show u ∈ us from by rw [htk]; exact List.getElem_mem hlt)
      obtain ⟨uk, unum, uden, utext, uon, ucode, urows, ucols, uA, un, uc⟩ := u
      have g0 : wr.cell? ⟨b, p + i * 9, none⟩ = some (.int .i64 uk) := by have := hcell i hlt 0 (by decide); rw [← htk] at this; exact this
      have g1 : wr.cell? ⟨b, p + i * 9 + 1, none⟩ = some (.string unum) := by have := hcell i hlt 1 (by decide); rw [← htk] at this; exact this
      have g2 : wr.cell? ⟨b, p + i * 9 + 2, none⟩ = some (.string uden) := by have := hcell i hlt 2 (by decide); rw [← htk] at this; exact this
      have g3 : wr.cell? ⟨b, p + i * 9 + 3, none⟩ = some (.string utext) := by have := hcell i hlt 3 (by decide); rw [← htk] at this; exact this
      have g4 : wr.cell? ⟨b, p + i * 9 + 4, none⟩ = some (.bool uon) := by have := hcell i hlt 4 (by decide); rw [← htk] at this; exact this
      have g5 : wr.cell? ⟨b, p + i * 9 + 5, none⟩ = some (.int .i64 ucode) := by have := hcell i hlt 5 (by decide); rw [← htk] at this; exact this
      have g6 : wr.cell? ⟨b, p + i * 9 + 6, none⟩ = some (.int .i64 urows) := by have := hcell i hlt 6 (by decide); rw [← htk] at this; exact this
      have g7 : wr.cell? ⟨b, p + i * 9 + 7, none⟩ = some (.int .i64 ucols) := by have := hcell i hlt 7 (by decide); rw [← htk] at this; exact this
      have g8 : wr.cell? ⟨b, p + i * 9 + 8, none⟩ = some (.slice uA un uc) := by have := hcell i hlt 8 (by decide); rw [← htk] at this; exact this
      clear hcell htk
      by_cases hk5 : uk = 5
      · subst hk5
        go_wp2_with fail
        go_ret
        exact ⟨_, rfl, HB.out.alloc HB.out.size _⟩
      · have HC := Lib.hid (show ∀ W, Below w.heap.size w W → Calls Tryz.prog 34 #[.agg #[.int .i64 uk, .string unum, .string uden, .string utext, .bool uon, .int .i64 ucode, .int .i64 urows, .int .i64 ucols, .slice uA un uc]] W (ARet W) from fun W hW => (HNA.out ⟨uk, unum, uden, utext, uon, ucode, urows, ucols, uA, un, uc⟩ W hW hk5 HM.out).mono fun e w' ⟨cc, h1, _, h2⟩ => ⟨cc, h1, h2⟩)
        have HBA := Lib.hid (HB.out.alloc HB.out.size (.cells #[.int .i64 uk, .string unum, .string uden, .string utext, .bool uon, .int .i64 ucode, .int .i64 urows, .int .i64 ucols, .slice uA un uc] 27))
        clear HV HM HNA HB
        go_wp2_with (go_at_call 34; (with_reducible refine (HC.out _ HBA.out).mono ?_); rintro e w1 ⟨cc, rfl, hb⟩; have HB1 := Lib.hid (below_tr HBA.out hb); clear hb)
        all_goals first
          | (go_ret; exact ⟨_, rfl, HB1.out⟩)
          | exact ⟨⟨i + 1, by omega, by go_num, HB1.out⟩, by simp [intOf]; omega⟩
    · go_wp2_with fail
      go_ret
      exact ⟨_, rfl, HB.out⟩
/-- Check answers, whatever the value. -/
theorem check_arr (v : Vl) (w : World) (he : VEnv w) (hi : v.its w) (h5 : v.k = 5) (sz : v.sz) : Calls Tryz.prog 34 #[v.v] w (ARet w) := by
  have HA := Lib.hid fun W (hb : Below w.heap.size w W) => array_t v W (he.below hb) (hi.below hb)
  obtain ⟨k, num, den, text, on, code, rows, cols, A, n, c⟩ := v
  dsimp only at h5
  subst h5
  have HA := Lib.hid (show ∀ W, Below w.heap.size w W → Calls Tryz.prog 63 #[.agg #[.int .i64 5, .string num, .string den, .string text, .bool on, .int .i64 code, .int .i64 rows, .int .i64 cols, .slice A n c]] W (ARet W) from HA.out)
  have HL0 := Lib.hid ((Loc.start w).alloc' rfl 27 #[.int .i64 5, .string num, .string den, .string text, .bool on, .int .i64 code, .int .i64 rows, .int .i64 cols, .slice A n c])
  show Calls Tryz.prog 34 #[.agg #[.int .i64 5, .string num, .string den, .string text, .bool on, .int .i64 code, .int .i64 rows, .int .i64 cols, .slice A n c]] w (ARet w)
  cases hz : Vl.zB ⟨5, num, den, text, on, code, rows, cols, A, n, c⟩ with
  | false =>
    have HZ := Lib.hid (show ∀ W, Calls Tryz.prog 59 #[.agg #[.int .i64 5, .string num, .string den, .string text, .bool on, .int .i64 code, .int .i64 rows, .int .i64 cols, .slice A n c]] W fun e w' => e = .returned (.int .i64 4) ∧ Below W.heap.size W w' from fun W => by
      have := zeros_any ⟨5, num, den, text, on, code, rows, cols, A, n, c⟩ W (show (0 : Int) ≤ 5 by decide) (show (5 : Int) ≤ 5 by decide)
      rw [hz] at this
      exact this)
    clear hz he hi sz
    go_enter Tryz.func34, Tryz.ntmps34
    go_wp2_with (go_at_call 59; (with_reducible refine (HZ.out _).mono ?_); rintro e w1 ⟨rfl, hb⟩; have HL1 := Lib.hid (HL0.out.step hb); clear hb)
    go_ret
    exact ⟨4, rfl, HL1.out.bel⟩
  | true =>
    have HZ := Lib.hid (show ∀ W, Calls Tryz.prog 59 #[.agg #[.int .i64 5, .string num, .string den, .string text, .bool on, .int .i64 code, .int .i64 rows, .int .i64 cols, .slice A n c]] W fun e w' => e = .returned (.int .i64 0) ∧ Below W.heap.size W w' from fun W => by
      have := zeros_any ⟨5, num, den, text, on, code, rows, cols, A, n, c⟩ W (show (0 : Int) ≤ 5 by decide) (show (5 : Int) ≤ 5 by decide)
      rw [hz] at this
      exact this)
    clear hz he hi sz
    go_enter Tryz.func34, Tryz.ntmps34
    go_wp2_with (first
      | (go_at_call 59; (with_reducible refine (HZ.out _).mono ?_); rintro e w1 ⟨rfl, hb⟩; have HL1 := Lib.hid (HL0.out.step hb); have hk0 := ((HL1.out.blk (g := w.heap.size) (t := 27) (cs := #[.int .i64 5, .string num, .string den, .string text, .bool on, .int .i64 code, .int .i64 rows, .int .i64 cols, .slice A n c]) (by simp)).cell 0); have hk1 := ((HL1.out.blk (g := w.heap.size) (t := 27) (cs := #[.int .i64 5, .string num, .string den, .string text, .bool on, .int .i64 code, .int .i64 rows, .int .i64 cols, .slice A n c]) (by simp)).cell 1); have hk2 := ((HL1.out.blk (g := w.heap.size) (t := 27) (cs := #[.int .i64 5, .string num, .string den, .string text, .bool on, .int .i64 code, .int .i64 rows, .int .i64 cols, .slice A n c]) (by simp)).cell 2); have hk3 := ((HL1.out.blk (g := w.heap.size) (t := 27) (cs := #[.int .i64 5, .string num, .string den, .string text, .bool on, .int .i64 code, .int .i64 rows, .int .i64 cols, .slice A n c]) (by simp)).cell 3); have hk4 := ((HL1.out.blk (g := w.heap.size) (t := 27) (cs := #[.int .i64 5, .string num, .string den, .string text, .bool on, .int .i64 code, .int .i64 rows, .int .i64 cols, .slice A n c]) (by simp)).cell 4); have hk5 := ((HL1.out.blk (g := w.heap.size) (t := 27) (cs := #[.int .i64 5, .string num, .string den, .string text, .bool on, .int .i64 code, .int .i64 rows, .int .i64 cols, .slice A n c]) (by simp)).cell 5); have hk6 := ((HL1.out.blk (g := w.heap.size) (t := 27) (cs := #[.int .i64 5, .string num, .string den, .string text, .bool on, .int .i64 code, .int .i64 rows, .int .i64 cols, .slice A n c]) (by simp)).cell 6); have hk7 := ((HL1.out.blk (g := w.heap.size) (t := 27) (cs := #[.int .i64 5, .string num, .string den, .string text, .bool on, .int .i64 code, .int .i64 rows, .int .i64 cols, .slice A n c]) (by simp)).cell 7); have hk8 := ((HL1.out.blk (g := w.heap.size) (t := 27) (cs := #[.int .i64 5, .string num, .string den, .string text, .bool on, .int .i64 code, .int .i64 rows, .int .i64 cols, .slice A n c]) (by simp)).cell 8); clear hb)
      | (go_at_call 63; (with_reducible refine (HA.out _ HL1.out.bel).mono ?_); rintro e w2 ⟨r, rfl, hb⟩; have HL2 := Lib.hid (HL1.out.step hb); clear hb))
    go_ret
    exact ⟨r, rfl, HL2.out.bel⟩
theorem check_all (v : Vl) (w : World) (he : VEnv w) (hi : v.its w) (sz : v.sz) : Calls Tryz.prog 34 #[v.v] w fun e w' => ∃ c : Int, e = .returned (.int .i64 c) ∧ (v.k ≠ 5 → c = 0 → v.ok) ∧ Below w.heap.size w w' := by
  by_cases h : v.k = 5
  · exact (check_arr v w he hi h sz).mono fun e w' ⟨c, h1, h2⟩ => ⟨c, h1, fun h' => absurd h h', h2⟩
  · exact (check_na v w he h sz.s1 sz.s2 sz.s3).mono fun e w' ⟨c, h1, h2, h3⟩ => ⟨c, h1, fun _ => h2.1, h3⟩
end Go.Proofs.YtmapagbmihpbmaaGreatDoor

namespace Go.Proofs.YtmapagbmihpbmaaGreatDoor
open Go.RowKit

/-- An array whose items are good. -/
def GoodArr (v : Vl) (us : List Vl) : Prop := us.length = v.n ∧ (∀ u ∈ us, u.sz) ∧ (∀ u ∈ us, u.ok) ∧ 1 ≤ v.rows ∧ v.rows ≤ 100000 ∧ 1 ≤ v.cols ∧ v.cols ≤ 100000 ∧ v.rows * v.cols ≤ 100000 ∧ (us.length : Int) = v.rows * v.cols
set_option maxRecDepth 100000 in
set_option maxHeartbeats 4000000 in
theorem array_ok (v : Vl) (w : World) (he : VEnv w) (us : List Vl) (hg : GoodArr v us) (hv : Reads 9 (fun u : Vl => u.cs.toList) w (.slice v.A v.n v.c) us) : Calls Tryz.prog 63 #[v.v] w fun e w' => e = .returned (.int .i64 0) ∧ Below w.heap.size w w' := by
  obtain ⟨hn, hs, hok, r1, r2, r3, r4, h2, h3⟩ := hg
  obtain ⟨k, num, den, text, on, code, rows, cols, A, n, c⟩ := v
  dsimp only at hn hv r1 r2 r3 r4 h2 h3
  subst hn
  have HL0 := Lib.hid ((Loc.start w).alloc' rfl 27 #[.int .i64 k, .string num, .string den, .string text, .bool on, .int .i64 code, .int .i64 rows, .int .i64 cols, .slice A us.length c])
  have HOK := Lib.hid hok
  have HNA := Lib.hid fun (u : Vl) W (hb : Below w.heap.size w W) (hk : u.k ≠ 5) (hm : u ∈ us) => check_na u W (he.below hb) hk (hs u hm).s1 (hs u hm).s2 (hs u hm).s3
  have HV := Lib.hid hv
  clear he hs hv hok
  show Calls Tryz.prog 63 #[.agg #[.int .i64 k, .string num, .string den, .string text, .bool on, .int .i64 code, .int .i64 rows, .int .i64 cols, .slice A us.length c]] w _
  have m1 : 0 ≤ rows * cols := Int.mul_nonneg (by omega) (by omega)
  have m2 : rows * cols ≤ 10000000000 := Int.le_trans (Int.mul_le_mul r2 r4 (by omega) (by omega)) (by decide)
  have hnl : us.length ≤ 100000 := by omega
  have hb3 : ((us.length : Int) != rows * cols) = false := by rw [bne_eq_false_iff_eq]; exact h3
  clear h3
  go_enter Tryz.func63, Tryz.ntmps63
  go_wp2_with fail
  go_loopw [42] (fun i wr => ∃ j : Nat, j ≤ us.length ∧ i = .int .i64 j ∧ Below w.heap.size w wr) (fun i _ => us.length - (intOf i).toNat)
  case atStart => exact ⟨0, Nat.zero_le _, rfl, HL0.out.bel⟩
  case round =>
    obtain ⟨i, hi, rfl, hb⟩ := hrel
    clear hb3 m1 m2 r1 r2 r3 r4 h2
    have HB := Lib.hid hb
    clear hb
    by_cases hlt : i < us.length
    · obtain ⟨u, htk⟩ : ∃ x, x = us[i] := ⟨_, rfl⟩
      obtain ⟨A', c', e', hc', -, hrd⟩ := (HV.out.below HB.out)
      injection e' with e1 _ e3
      subst e1 e3
      obtain ⟨b, p, rfl, hblt, hcell⟩ := hrd (by omega)
      have HM := Lib.hid (show u ∈ us from by rw [htk]; exact List.getElem_mem hlt)
      obtain ⟨uk, unum, uden, utext, uon, ucode, urows, ucols, uA, un, uc⟩ := u
      have g0 : wr.cell? ⟨b, p + i * 9, none⟩ = some (.int .i64 uk) := by have := hcell i hlt 0 (by decide); rw [← htk] at this; exact this
      have g1 : wr.cell? ⟨b, p + i * 9 + 1, none⟩ = some (.string unum) := by have := hcell i hlt 1 (by decide); rw [← htk] at this; exact this
      have g2 : wr.cell? ⟨b, p + i * 9 + 2, none⟩ = some (.string uden) := by have := hcell i hlt 2 (by decide); rw [← htk] at this; exact this
      have g3 : wr.cell? ⟨b, p + i * 9 + 3, none⟩ = some (.string utext) := by have := hcell i hlt 3 (by decide); rw [← htk] at this; exact this
      have g4 : wr.cell? ⟨b, p + i * 9 + 4, none⟩ = some (.bool uon) := by have := hcell i hlt 4 (by decide); rw [← htk] at this; exact this
      have g5 : wr.cell? ⟨b, p + i * 9 + 5, none⟩ = some (.int .i64 ucode) := by have := hcell i hlt 5 (by decide); rw [← htk] at this; exact this
      have g6 : wr.cell? ⟨b, p + i * 9 + 6, none⟩ = some (.int .i64 urows) := by have := hcell i hlt 6 (by decide); rw [← htk] at this; exact this
      have g7 : wr.cell? ⟨b, p + i * 9 + 7, none⟩ = some (.int .i64 ucols) := by have := hcell i hlt 7 (by decide); rw [← htk] at this; exact this
      have g8 : wr.cell? ⟨b, p + i * 9 + 8, none⟩ = some (.slice uA un uc) := by have := hcell i hlt 8 (by decide); rw [← htk] at this; exact this
      clear hcell htk
      have hok := HOK.out _ HM.out
      have hk5 : uk ≠ 5 := by have h4 : uk ≤ 4 := hok.2.1; omega
      have HC := Lib.hid (show ∀ W, Below w.heap.size w W → Calls Tryz.prog 34 #[.agg #[.int .i64 uk, .string unum, .string uden, .string utext, .bool uon, .int .i64 ucode, .int .i64 urows, .int .i64 ucols, .slice uA un uc]] W fun e w' => e = .returned (.int .i64 0) ∧ Below W.heap.size W w' from fun W hW => (HNA.out ⟨uk, unum, uden, utext, uon, ucode, urows, ucols, uA, un, uc⟩ W hW hk5 HM.out).mono fun e w' ⟨c, h1, h2, h3⟩ => ⟨by rw [h1, h2.2 hok], h3⟩)
      have HBA := Lib.hid (HB.out.alloc HB.out.size (.cells #[.int .i64 uk, .string unum, .string uden, .string utext, .bool uon, .int .i64 ucode, .int .i64 urows, .int .i64 ucols, .slice uA un uc] 27))
      clear HV HM HNA HB hok
      go_wp2_with (go_at_call 34; (with_reducible refine (HC.out _ HBA.out).mono ?_); rintro e w1 ⟨rfl, hb⟩; have HB1 := Lib.hid (below_tr HBA.out hb); clear hb)
      go_roundw
      case rel => exact ⟨i + 1, by omega, by go_num, HB1.out⟩
      case measure => simp [intOf]; omega
    · go_wp2_with fail
      go_ret
      exact ⟨rfl, HB.out⟩
set_option maxRecDepth 100000 in
set_option maxHeartbeats 4000000 in
theorem check_ok (v : Vl) (w : World) (he : VEnv w) (us : List Vl) (h5 : v.k = 5) (hz : v.zB = true) (hg : GoodArr v us) (hv : Reads 9 (fun u : Vl => u.cs.toList) w (.slice v.A v.n v.c) us) : Calls Tryz.prog 34 #[v.v] w fun e w' => e = .returned (.int .i64 0) ∧ Below w.heap.size w w' := by
  have HA := Lib.hid fun W (hb : Below w.heap.size w W) => array_ok v W (he.below hb) us hg (hv.below hb)
  obtain ⟨k, num, den, text, on, code, rows, cols, A, n, c⟩ := v
  dsimp only at h5
  subst h5
  have HA := Lib.hid (show ∀ W, Below w.heap.size w W → Calls Tryz.prog 63 #[.agg #[.int .i64 5, .string num, .string den, .string text, .bool on, .int .i64 code, .int .i64 rows, .int .i64 cols, .slice A n c]] W _ from HA.out)
  have HL0 := Lib.hid ((Loc.start w).alloc' rfl 27 #[.int .i64 5, .string num, .string den, .string text, .bool on, .int .i64 code, .int .i64 rows, .int .i64 cols, .slice A n c])
  show Calls Tryz.prog 34 #[.agg #[.int .i64 5, .string num, .string den, .string text, .bool on, .int .i64 code, .int .i64 rows, .int .i64 cols, .slice A n c]] w _
  have HZ := Lib.hid (show ∀ W, Calls Tryz.prog 59 #[.agg #[.int .i64 5, .string num, .string den, .string text, .bool on, .int .i64 code, .int .i64 rows, .int .i64 cols, .slice A n c]] W fun e w' => e = .returned (.int .i64 0) ∧ Below W.heap.size W w' from fun W => by
    have := zeros_any ⟨5, num, den, text, on, code, rows, cols, A, n, c⟩ W (show (0 : Int) ≤ 5 by decide) (show (5 : Int) ≤ 5 by decide)
    rw [hz] at this
    exact this)
  clear hz he hg hv
  go_enter Tryz.func34, Tryz.ntmps34
  go_wp2_with (first
    | (go_at_call 59; (with_reducible refine (HZ.out _).mono ?_); rintro e w1 ⟨rfl, hb⟩; have HL1 := Lib.hid (HL0.out.step hb); have hk0 := ((HL1.out.blk (g := w.heap.size) (t := 27) (cs := #[.int .i64 5, .string num, .string den, .string text, .bool on, .int .i64 code, .int .i64 rows, .int .i64 cols, .slice A n c]) (by simp)).cell 0); have hk1 := ((HL1.out.blk (g := w.heap.size) (t := 27) (cs := #[.int .i64 5, .string num, .string den, .string text, .bool on, .int .i64 code, .int .i64 rows, .int .i64 cols, .slice A n c]) (by simp)).cell 1); have hk2 := ((HL1.out.blk (g := w.heap.size) (t := 27) (cs := #[.int .i64 5, .string num, .string den, .string text, .bool on, .int .i64 code, .int .i64 rows, .int .i64 cols, .slice A n c]) (by simp)).cell 2); have hk3 := ((HL1.out.blk (g := w.heap.size) (t := 27) (cs := #[.int .i64 5, .string num, .string den, .string text, .bool on, .int .i64 code, .int .i64 rows, .int .i64 cols, .slice A n c]) (by simp)).cell 3); have hk4 := ((HL1.out.blk (g := w.heap.size) (t := 27) (cs := #[.int .i64 5, .string num, .string den, .string text, .bool on, .int .i64 code, .int .i64 rows, .int .i64 cols, .slice A n c]) (by simp)).cell 4); have hk5 := ((HL1.out.blk (g := w.heap.size) (t := 27) (cs := #[.int .i64 5, .string num, .string den, .string text, .bool on, .int .i64 code, .int .i64 rows, .int .i64 cols, .slice A n c]) (by simp)).cell 5); have hk6 := ((HL1.out.blk (g := w.heap.size) (t := 27) (cs := #[.int .i64 5, .string num, .string den, .string text, .bool on, .int .i64 code, .int .i64 rows, .int .i64 cols, .slice A n c]) (by simp)).cell 6); have hk7 := ((HL1.out.blk (g := w.heap.size) (t := 27) (cs := #[.int .i64 5, .string num, .string den, .string text, .bool on, .int .i64 code, .int .i64 rows, .int .i64 cols, .slice A n c]) (by simp)).cell 7); have hk8 := ((HL1.out.blk (g := w.heap.size) (t := 27) (cs := #[.int .i64 5, .string num, .string den, .string text, .bool on, .int .i64 code, .int .i64 rows, .int .i64 cols, .slice A n c]) (by simp)).cell 8); clear hb)
    | (go_at_call 63; (with_reducible refine (HA.out _ HL1.out.bel).mono ?_); rintro e w2 ⟨rfl, hb⟩; have HL2 := Lib.hid (HL1.out.step hb); clear hb))
  go_ret
  exact ⟨rfl, HL2.out.bel⟩
end Go.Proofs.YtmapagbmihpbmaaGreatDoor
