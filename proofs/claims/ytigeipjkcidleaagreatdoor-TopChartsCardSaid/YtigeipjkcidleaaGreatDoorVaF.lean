/- value: how the text 1900-01-02 is entered: the readers of numbers and fractions refuse it. -/
import Derived.Test.YtigeipjkcidleaaGreatDoorVaC
import Derived.Test.YtigeipjkcidleaaGreatDoorExP
import Derived.Test.YtigeipjkcidleaaGreatDoorVaB
import Derived.Test.YtigeipjkcidleaaGreatDoorLoc
import Derived.Deep.QuietTactic
import Derived.BigQuiet
namespace Go.Proofs.YtigeipjkcidleaaGreatDoor
open Go.RowKit

/-- value.digits: the digits, and what is behind them. -/
theorem vdigits_any (s a b : ByteArray) (w : World) (hs : s.data.toList = a.data.toList ++ b.data.toList) (ha : Nt.allD a.data.toList) (hb : ∀ c t, b.data.toList = c :: t → ¬ Nt.isD c) (hl : s.size ≤ 1000000) :
    Calls Tryz.prog 257 #[.string s] w fun e w' => e = .returned (.tuple #[.string a, .string b]) ∧ Below w.heap.size w w' := by
  have hz : a.size + b.size = s.size := by
    have := congrArg List.length hs
    rw [List.length_append] at this
    exact this.symm
  have ht := trimleft_v s w
  rw [hs, Nt.left_split ha hb] at ht
  rw [show (⟨b.data.toList.toArray⟩ : ByteArray) = b from ba_ext (by simp)] at ht
  have HT := Lib.hid ht
  have hcut : s.extract 0 (s.size - b.size) = a := ba_ext (by
    rw [Lib.extract_data, hs, show s.size - b.size = a.data.toList.length from (by have : a.size = a.data.toList.length := rfl; omega)]
    simp)
  have HC := Lib.hid hcut
  have HZ := Lib.hid hz
  have b1 : (b.size : Int) ≤ s.size := by omega
  have b2 : (s.size : Int) - b.size = a.size := by omega
  have HB2 := Lib.hid b2
  clear ht hcut hz b2 hs ha hb
  go_enter Tryz.func257, Tryz.ntmps257
  go_wp2_with (go_at_call 275; refine HT.out.mono ?_; rintro e w2 ⟨rfl, hbw⟩)
  rw [HC.out]
  go_ret2
  exact ⟨rfl, hbw⟩
theorem vdig0 (w : World) : Calls Tryz.prog 257 #[.string ⟨#[49, 57, 48, 48, 45, 48, 49, 45, 48, 50]⟩] w fun e w' => e = .returned (.tuple #[.string ⟨#[49, 57, 48, 48]⟩, .string ⟨#[45, 48, 49, 45, 48, 50]⟩]) ∧ Below w.heap.size w w' :=
  vdigits_any ⟨#[49, 57, 48, 48, 45, 48, 49, 45, 48, 50]⟩ ⟨#[49, 57, 48, 48]⟩ ⟨#[45, 48, 49, 45, 48, 50]⟩ w rfl (by unfold Nt.allD Nt.isD; decide) (by intro c t e; cases e; unfold Nt.isD; decide) (by decide)
theorem run0 (w : World) : Calls Tryz.prog 269 #[.string ⟨#[49, 57, 48, 48, 45, 48, 49, 45, 48, 50]⟩] w fun e w' => e = .returned (.tuple #[.string ⟨#[49, 57, 48, 48]⟩, .string ⟨#[45, 48, 49, 45, 48, 50]⟩]) ∧ Below w.heap.size w w' :=
  run_any ⟨#[49, 57, 48, 48, 45, 48, 49, 45, 48, 50]⟩ ⟨#[49, 57, 48, 48]⟩ ⟨#[45, 48, 49, 45, 48, 50]⟩ w rfl (by unfold Nt.allD Nt.isD; decide) (by intro c t e; cases e; unfold Nt.isD; decide) (by decide)
theorem vdigE (w : World) : Calls Tryz.prog 257 #[.string ⟨#[]⟩] w fun e w' => e = .returned (.tuple #[.string ⟨#[]⟩, .string ⟨#[]⟩]) ∧ Below w.heap.size w w' :=
  vdigits_any ⟨#[]⟩ ⟨#[]⟩ ⟨#[]⟩ w rfl (by unfold Nt.allD Nt.isD; decide) (by intro c t e; cases e) (by decide)
theorem grouped0 (w : World) : Calls Tryz.prog 248 #[.string ⟨#[49, 57, 48, 48, 45, 48, 49, 45, 48, 50]⟩] w fun e w' => e = .returned (.tuple #[.string ⟨#[49, 57, 48, 48]⟩, .string ⟨#[45, 48, 49, 45, 48, 50]⟩]) ∧ Below w.heap.size w w' := by
  go_enter Tryz.func248, Tryz.ntmps248
  go_wp2_with (go_at_call 257; refine (vdig0 _).mono ?_; rintro e w2 ⟨rfl, hbw⟩)
  go_ret2
  exact ⟨rfl, hbw⟩
theorem exponent0 (w : World) : Calls Tryz.prog 270 #[.string ⟨#[45, 48, 49, 45, 48, 50]⟩] w fun e w' => e = .returned (.tuple #[.int .i64 0, .bool false]) ∧ w = w' := by
  go_enter Tryz.func270, Tryz.ntmps270
  go_wp2
  go_ret2
  exact ⟨rfl, rfl⟩
theorem cp0 (w : World) : Calls Tryz.prog 137 #[.string ⟨#[49, 57, 48, 48, 45, 48, 49, 45, 48, 50]⟩, .string ⟨#[45]⟩] w fun e w' => e = .returned (.tuple #[.string ⟨#[49, 57, 48, 48, 45, 48, 49, 45, 48, 50]⟩, .bool false]) ∧ w = w' :=
  (Tryz.strings_CutPrefix ⟨#[49, 57, 48, 48, 45, 48, 49, 45, 48, 50]⟩ ⟨#[45]⟩ w).mono fun _e _w' ⟨h1, h2⟩ => ⟨h1, h2.symm⟩
theorem cp1 (w : World) : Calls Tryz.prog 137 #[.string ⟨#[45, 48, 49, 45, 48, 50]⟩, .string ⟨#[46]⟩] w fun e w' => e = .returned (.tuple #[.string ⟨#[45, 48, 49, 45, 48, 50]⟩, .bool false]) ∧ w = w' :=
  (Tryz.strings_CutPrefix ⟨#[45, 48, 49, 45, 48, 50]⟩ ⟨#[46]⟩ w).mono fun _e _w' ⟨h1, h2⟩ => ⟨h1, h2.symm⟩
theorem cp2 (w : World) : Calls Tryz.prog 137 #[.string ⟨#[49, 57, 48, 48, 45, 48, 49, 45, 48, 50]⟩, .string ⟨#[39]⟩] w fun e w' => e = .returned (.tuple #[.string ⟨#[49, 57, 48, 48, 45, 48, 49, 45, 48, 50]⟩, .bool false]) ∧ w = w' :=
  (Tryz.strings_CutPrefix ⟨#[49, 57, 48, 48, 45, 48, 49, 45, 48, 50]⟩ ⟨#[39]⟩ w).mono fun _e _w' ⟨h1, h2⟩ => ⟨h1, h2.symm⟩
theorem cs0 (w : World) : Calls Tryz.prog 249 #[.string ⟨#[45, 48, 49, 45, 48, 50]⟩, .string ⟨#[37]⟩] w fun e w' => e = .returned (.tuple #[.string ⟨#[45, 48, 49, 45, 48, 50]⟩, .bool false]) ∧ w = w' :=
  (Tryz.strings_CutSuffix ⟨#[45, 48, 49, 45, 48, 50]⟩ ⟨#[37]⟩ w (by decide)).mono fun e w' ⟨h1, h2⟩ => ⟨h1, h2.symm⟩
set_option maxHeartbeats 1000000 in
theorem parse0 (w : World) : Calls Tryz.prog 250 #[.string ⟨#[49, 57, 48, 48, 45, 48, 49, 45, 48, 50]⟩] w fun e w' => e = .returned (.tuple #[.agg #[.string ⟨#[]⟩, .string ⟨#[]⟩], .int .i64 10]) ∧ Below w.heap.size w w' := by
  have HL0 := Lib.hid ((Loc.start w).alloc' rfl 24 #[.string ⟨#[]⟩, .string ⟨#[]⟩])
  go_enter Tryz.func250, Tryz.ntmps250
  go_wp2_with (first
    | (go_at_call 137; first | ((with_reducible refine (cp0 _).mono ?_); rintro e w1 ⟨rfl, rfl⟩) | ((with_reducible refine (cp1 _).mono ?_); rintro e w1 ⟨rfl, rfl⟩))
    | (go_at_call 269; (with_reducible refine (run0 _).mono ?_); rintro e w2 ⟨rfl, hb⟩; have HL2 := Lib.hid (HL0.out.step hb); obtain ⟨x0, x1, f0, f1⟩ := (HL2.out.blk (g := w.heap.size) (t := 24) (cs := #[.string ⟨#[]⟩, .string ⟨#[]⟩]) (by simp)).two; clear hb)
    | (go_at_call 270; (with_reducible refine (exponent0 _).mono ?_); rintro e w4 ⟨rfl, rfl⟩))
  obtain ⟨-, q0, q1⟩ := (HL2.out.blk (g := w.heap.size) (t := 24) (cs := #[.string ⟨#[]⟩, .string ⟨#[]⟩]) (by simp)).two_set (.string ⟨#[]⟩) (.string ⟨#[]⟩)
  refine bodyPost_ret (v := .tuple #[.agg #[.string ⟨#[]⟩, .string ⟨#[]⟩], .int .i64 10]) (by simp [results, Tryz.results250, go_sem, q0, q1]) rfl ⟨rfl, ?_⟩
  exact below_two HL2.out.bel (Nat.le_refl _) _ _
/-- The answer of a reader that refuses. -/
def NoFr (w : World) (e : Ending) (w' : World) : Prop := e = .returned (.tuple #[.agg #[.string ⟨#[]⟩, .string ⟨#[]⟩], .bool false]) ∧ Below w.heap.size w w'
theorem ecat0 : ((⟨#[]⟩ ++ ⟨#[49, 57, 48, 48]⟩ ++ ⟨#[45, 48, 49, 45, 48, 50]⟩ : ByteArray)) = ⟨#[49, 57, 48, 48, 45, 48, 49, 45, 48, 50]⟩ := ba_ext (by rw [ByteArray.toList_data_append, ByteArray.toList_data_append]; rfl)
set_option maxHeartbeats 1000000 in
theorem number0 (w : World) : Calls Tryz.prog 226 #[.string ⟨#[49, 57, 48, 48, 45, 48, 49, 45, 48, 50]⟩] w (NoFr w) := by
  have HL0 := Lib.hid ((Loc.start w).alloc' rfl 24 #[.string ⟨#[]⟩, .string ⟨#[]⟩])
  go_enter Tryz.func226, Tryz.ntmps226
  go_wp2_with (first
    | (go_at_call 249; (with_reducible refine (cs0 _).mono ?_); rintro e w1 ⟨rfl, rfl⟩)
    | (go_at_call 248; (with_reducible refine (grouped0 _).mono ?_); rintro e w2 ⟨rfl, hb⟩; have HL2 := Lib.hid (HL0.out.step hb); clear hb)
    | (go_at_call 250; rw [ecat0]; (with_reducible refine (parse0 _).mono ?_); rintro e w3 ⟨rfl, hb⟩; have HL3 := Lib.hid ((HL2.out.step hb).alloc 24 #[.string ⟨#[]⟩, .string ⟨#[]⟩]); obtain ⟨x0, x1, f0, f1⟩ := (HL3.out.blk (g := w.heap.size) (t := 24) (cs := #[.string ⟨#[]⟩, .string ⟨#[]⟩]) (by simp)).two; clear hb))
  obtain ⟨-, q0, q1⟩ := (HL3.out.blk (g := w.heap.size) (t := 24) (cs := #[.string ⟨#[]⟩, .string ⟨#[]⟩]) (by simp)).two_set (.string ⟨#[]⟩) (.string ⟨#[]⟩)
  refine bodyPost_ret (v := .tuple #[.agg #[.string ⟨#[]⟩, .string ⟨#[]⟩], .bool false]) (by simp [results, Tryz.results226, go_sem, q0, q1]) rfl ⟨rfl, ?_⟩
  exact below_two HL3.out.bel (Nat.le_refl _) _ _
set_option maxHeartbeats 1000000 in
theorem whole0 (w : World) : Calls Tryz.prog 252 #[.string ⟨#[49, 57, 48, 48, 45, 48, 49, 45, 48, 50]⟩] w (NoFr w) := by
  have HL0 := Lib.hid ((Loc.start w).alloc' rfl 24 #[.string ⟨#[]⟩, .string ⟨#[]⟩])
  go_enter Tryz.func252, Tryz.ntmps252
  go_wp2_with (go_at_call 257; (with_reducible refine (vdig0 _).mono ?_); rintro e w2 ⟨rfl, hb⟩; have HL2 := Lib.hid (HL0.out.step hb); obtain ⟨x0, x1, f0, f1⟩ := (HL2.out.blk (g := w.heap.size) (t := 24) (cs := #[.string ⟨#[]⟩, .string ⟨#[]⟩]) (by simp)).two; clear hb)
  obtain ⟨-, q0, q1⟩ := (HL2.out.blk (g := w.heap.size) (t := 24) (cs := #[.string ⟨#[]⟩, .string ⟨#[]⟩]) (by simp)).two_set (.string ⟨#[]⟩) (.string ⟨#[]⟩)
  refine bodyPost_ret (v := .tuple #[.agg #[.string ⟨#[]⟩, .string ⟨#[]⟩], .bool false]) (by simp [results, Tryz.results252, go_sem, q0, q1]) rfl ⟨rfl, ?_⟩
  exact below_two HL2.out.bel (Nat.le_refl _) _ _
set_option maxHeartbeats 1000000 in
theorem wholeE (w : World) : Calls Tryz.prog 252 #[.string ⟨#[]⟩] w (NoFr w) := by
  have HL0 := Lib.hid ((Loc.start w).alloc' rfl 24 #[.string ⟨#[]⟩, .string ⟨#[]⟩])
  go_enter Tryz.func252, Tryz.ntmps252
  go_wp2_with (go_at_call 257; (with_reducible refine (vdigE _).mono ?_); rintro e w2 ⟨rfl, hb⟩; have HL2 := Lib.hid (HL0.out.step hb); obtain ⟨x0, x1, f0, f1⟩ := (HL2.out.blk (g := w.heap.size) (t := 24) (cs := #[.string ⟨#[]⟩, .string ⟨#[]⟩]) (by simp)).two; clear hb)
  obtain ⟨-, q0, q1⟩ := (HL2.out.blk (g := w.heap.size) (t := 24) (cs := #[.string ⟨#[]⟩, .string ⟨#[]⟩]) (by simp)).two_set (.string ⟨#[]⟩) (.string ⟨#[]⟩)
  refine bodyPost_ret (v := .tuple #[.agg #[.string ⟨#[]⟩, .string ⟨#[]⟩], .bool false]) (by simp [results, Tryz.results252, go_sem, q0, q1]) rfl ⟨rfl, ?_⟩
  exact below_two HL2.out.bel (Nat.le_refl _) _ _
/-- What the walks of value ask of the world. -/
structure VEnv (W : World) : Prop where
  u8 : Lib.Utf8Tabs 4 5 W
  pw : Lib.TabIs Tryz.prog W "internal/strconv.uint64pow10" .u64 Lib.pow10Tab
  mx : ∃ m, W.cell? ⟨3, 0, none⟩ = some (.int .i64 m)
  f0 : W.cell? ⟨1, 0, none⟩ = some (.string ⟨#[]⟩)
  f1 : W.cell? ⟨1, 1, none⟩ = some (.string ⟨#[35, 68, 73, 86, 47, 48, 33]⟩)
  f2 : W.cell? ⟨1, 2, none⟩ = some (.string ⟨#[35, 86, 65, 76, 85, 69, 33]⟩)
  f3 : W.cell? ⟨1, 3, none⟩ = some (.string ⟨#[35, 82, 69, 70, 33]⟩)
  f4 : W.cell? ⟨1, 4, none⟩ = some (.string ⟨#[35, 78, 65, 77, 69, 63]⟩)
  f5 : W.cell? ⟨1, 5, none⟩ = some (.string ⟨#[35, 78, 85, 77, 33]⟩)
  f6 : W.cell? ⟨1, 6, none⟩ = some (.string ⟨#[35, 78, 47, 65]⟩)
  f7 : W.cell? ⟨1, 7, none⟩ = some (.string ⟨#[35, 83, 80, 73, 76, 76, 33]⟩)
  f8 : W.cell? ⟨1, 8, none⟩ = some (.string ⟨#[35, 67, 89, 67, 76, 69, 33]⟩)
theorem cell_later {w W : World} {b o : Nat} {v : Value} (h : w.cell? ⟨b, o, none⟩ = some v) (hb : Below w.heap.size w W) : W.cell? ⟨b, o, none⟩ = some v :=
  (hb.cell (p := ⟨b, o, none⟩) (World.block_lt_of_cell? _ _ h)).trans h
theorem VEnv.below {w W : World} (h : VEnv w) (hb : Below w.heap.size w W) : VEnv W :=
  ⟨Utf8Tabs_below h.u8 hb, Lib.tabBelow_of_tabIs h.pw W hb, by obtain ⟨m, hm⟩ := h.mx; exact ⟨m, cell_later hm hb⟩, cell_later h.f0 hb, cell_later h.f1 hb, cell_later h.f2 hb, cell_later h.f3 hb, cell_later h.f4 hb, cell_later h.f5 hb, cell_later h.f6 hb, cell_later h.f7 hb, cell_later h.f8 hb⟩

theorem cut0 (W : World) (m : Int) (hm : W.cell? ⟨3, 0, none⟩ = some (.int .i64 m)) : Calls Tryz.prog 251 #[.string ⟨#[49, 57, 48, 48, 45, 48, 49, 45, 48, 50]⟩, .string ⟨#[32]⟩] W fun e w' => e = .returned (.tuple #[.string ⟨#[49, 57, 48, 48, 45, 48, 49, 45, 48, 50]⟩, .string ⟨#[]⟩, .bool false]) ∧ Below W.heap.size W w' :=
  (Tryz.strings_Cut ⟨#[49, 57, 48, 48, 45, 48, 49, 45, 48, 50]⟩ ⟨#[32]⟩ m W (by decide) hm).mono fun e w' ⟨h1, n, h2⟩ => ⟨h1, by rw [h2]; exact ⟨rfl, rfl, rfl, Nat.le_refl _, fun _ _ => rfl⟩⟩
theorem cutE (W : World) (m : Int) (hm : W.cell? ⟨3, 0, none⟩ = some (.int .i64 m)) : Calls Tryz.prog 251 #[.string ⟨#[]⟩, .string ⟨#[47]⟩] W fun e w' => e = .returned (.tuple #[.string ⟨#[]⟩, .string ⟨#[]⟩, .bool false]) ∧ Below W.heap.size W w' :=
  (Tryz.strings_Cut ⟨#[]⟩ ⟨#[47]⟩ m W (by decide) hm).mono fun e w' ⟨h1, n, h2⟩ => ⟨h1, by rw [h2]; exact ⟨rfl, rfl, rfl, Nat.le_refl _, fun _ _ => rfl⟩⟩
set_option maxRecDepth 100000 in
set_option maxHeartbeats 2000000 in
theorem mixed0 (w : World) (he : VEnv w) : Calls Tryz.prog 227 #[.string ⟨#[49, 57, 48, 48, 45, 48, 49, 45, 48, 50]⟩] w (NoFr w) := by
  obtain ⟨m, hm⟩ := he.mx
  have HM := Lib.hid (show ∀ W, Below w.heap.size w W → W.cell? ⟨3, 0, none⟩ = some (.int .i64 m) from fun W hb => cell_later hm hb)
  clear he hm
  have HL0 := Lib.hid ((Loc.start w).alloc' rfl 24 #[.string ⟨#[]⟩, .string ⟨#[]⟩])
  go_enter Tryz.func227, Tryz.ntmps227
  go_wp2_with (first
    | (go_at_call 137; (with_reducible refine (cp0 _).mono ?_); rintro e w1 ⟨rfl, rfl⟩)
    | (go_at_call 251; first | ((with_reducible refine (cut0 _ m (HM.out _ HL0.out.bel)).mono ?_); rintro e w2 ⟨rfl, hb⟩; have HL1 := Lib.hid (HL0.out.step hb); clear hb) | ((with_reducible refine (cutE _ m (HM.out _ HL1.out.bel)).mono ?_); rintro e w3 ⟨rfl, hb⟩; have HL := Lib.hid (HL1.out.step hb); clear hb))
    | (go_at_call 252; first | ((with_reducible refine (whole0 _).mono ?_); rintro e w4 ⟨rfl, hb⟩; have HX := Lib.hid ((HL.out.step hb).alloc 24 #[.string ⟨#[]⟩, .string ⟨#[]⟩]); clear hb HL; have HL := Lib.hid HX.out; clear HX; obtain ⟨x0, x1, y0, y1⟩ := (HL.out.blk (g := w.heap.size) (t := 24) (cs := #[.string ⟨#[]⟩, .string ⟨#[]⟩]) (by simp)).two) | ((with_reducible refine (wholeE _).mono ?_); rintro e w5 ⟨rfl, hb⟩; clear x0 x1 y0 y1; have HX := Lib.hid ((HL.out.step hb).alloc 24 #[.string ⟨#[]⟩, .string ⟨#[]⟩]); clear hb HL; have HL := Lib.hid HX.out; clear HX; obtain ⟨x0, x1, y0, y1⟩ := (HL.out.blk (g := w.heap.size) (t := 24) (cs := #[.string ⟨#[]⟩, .string ⟨#[]⟩]) (by simp)).two)))
  obtain ⟨-, q0, q1⟩ := (HL.out.blk (g := w.heap.size) (t := 24) (cs := #[.string ⟨#[]⟩, .string ⟨#[]⟩]) (by simp)).two_set (.string ⟨#[]⟩) (.string ⟨#[]⟩)
  refine bodyPost_ret (v := .tuple #[.agg #[.string ⟨#[]⟩, .string ⟨#[]⟩], .bool false]) (by simp [results, Tryz.results227, go_sem, q0, q1]) rfl ⟨rfl, ?_⟩
  exact below_two HL.out.bel (Nat.le_refl _) _ _

/-- count: digits alone. -/
theorem count_any (s : ByteArray) (l : List UInt8) (n : Int) (w : World) (hs : s.data.toList = l) (h : Nt.allD l) (h0 : l ≠ []) (hl : l.length ≤ 18) (hn : n = (l.length : Int)) :
    Calls Tryz.prog 255 #[.string s, .int .i64 n] w fun e w' => e = .returned (.tuple #[.int .i64 (Nt.dval l : Int), .bool true]) ∧ Below w.heap.size w w' := by
  have hss : s.size = l.length := by rw [← hs]; rfl
  have HD := Lib.hid (vdigits_any s s ⟨#[]⟩ w (by simp) (by rw [hs]; exact h) (fun c t e => by cases e) (by omega))
  have HA := Lib.hid fun W => atoi_any s l W hs hl h h0
  obtain rfl : n = (s.size : Int) := by rw [hn, ← hss]
  clear hs h h0 hl hn hss
  go_enter Tryz.func255, Tryz.ntmps255
  go_upto_region 3 with (first
    | (go_at_call 257; (with_reducible refine HD.out.mono ?_); rintro e w1 ⟨rfl, hb⟩; have HB1 := Lib.hid hb; clear hb)
    | (go_at_call 139; (with_reducible refine (HA.out _).mono ?_); rintro e w2 ⟨rfl, hb⟩; have HB2 := Lib.hid (HB1.out.trans (hb.mono HB1.out.size)); clear hb))
  go_quiet (fail)
  go_wp2_with fail
  go_ret2
  exact ⟨rfl, ⟨HB2.out.os, HB2.out.tape, HB2.out.output, HB2.out.size, HB2.out.block⟩⟩

theorem split0 (W : World) (m : Int) (hm : W.cell? ⟨3, 0, none⟩ = some (.int .i64 m)) : Calls Tryz.prog 254 #[.string ⟨#[49, 57, 48, 48, 45, 48, 49, 45, 48, 50]⟩, .string ⟨#[45]⟩] W fun e w' => e = .returned (.slice (some ⟨W.heap.size, 0, none⟩) 3 3) ∧ w' = W.alloc (.cells #[.string ⟨#[49, 57, 48, 48]⟩, .string ⟨#[48, 49]⟩, .string ⟨#[48, 50]⟩] 9) := by
  have h := Tryz.strings_Split ⟨#[49, 57, 48, 48, 45, 48, 49, 45, 48, 50]⟩ ⟨#[45]⟩ m W (by decide) hm (by decide)
  rw [show Lib.countB ⟨#[49, 57, 48, 48, 45, 48, 49, 45, 48, 50]⟩ ⟨#[45]⟩ = 2 from by decide +kernel] at h
  rw [show Lib.splitB ⟨#[45]⟩ 0 2 ⟨#[49, 57, 48, 48, 45, 48, 49, 45, 48, 50]⟩ = [⟨#[49, 57, 48, 48]⟩, ⟨#[48, 49]⟩, ⟨#[48, 50]⟩] from by decide +kernel] at h
  exact h
set_option maxRecDepth 100000 in
set_option maxHeartbeats 2000000 in
theorem date0 (w : World) (he : VEnv w) : Calls Tryz.prog 228 #[.string ⟨#[49, 57, 48, 48, 45, 48, 49, 45, 48, 50]⟩] w fun e w' => e = .returned (.tuple #[.agg #[.string ⟨#[50]⟩, .string ⟨#[49]⟩], .bool true]) ∧ Below w.heap.size w w' := by
  obtain ⟨m, hm⟩ := he.mx
  have HM := Lib.hid (show ∀ W, Below w.heap.size w W → W.cell? ⟨3, 0, none⟩ = some (.int .i64 m) from fun W hb => cell_later hm hb)
  have HT := Lib.hid (show ∀ W, Below w.heap.size w W → Lib.TabIs Tryz.prog W "internal/strconv.uint64pow10" .u64 Lib.pow10Tab from fun W hb => Lib.tabBelow_of_tabIs he.pw W hb)
  clear he hm
  have HL0 := Lib.hid ((Loc.start w).alloc' rfl 24 #[.string ⟨#[]⟩, .string ⟨#[]⟩])
  have HC4 := Lib.hid fun W => count_any ⟨#[49, 57, 48, 48]⟩ [49, 57, 48, 48] 4 W rfl (by unfold Nt.allD Nt.isD; decide) (by decide) (by decide) rfl
  have HC1 := Lib.hid fun W => count_any ⟨#[48, 49]⟩ [48, 49] 2 W rfl (by unfold Nt.allD Nt.isD; decide) (by decide) (by decide) rfl
  have HC2 := Lib.hid fun W => count_any ⟨#[48, 50]⟩ [48, 50] 2 W rfl (by unfold Nt.allD Nt.isD; decide) (by decide) (by decide) rfl
  rw [show ((Nt.dval [49, 57, 48, 48] : Nat) : Int) = 1900 from by decide] at HC4
  rw [show ((Nt.dval [48, 49] : Nat) : Int) = 1 from by decide] at HC1
  rw [show ((Nt.dval [48, 50] : Nat) : Int) = 2 from by decide] at HC2
  have HD := Lib.hid fun W => day_in 1900 1 2 W (by decide) (by decide) (by decide) (by decide) (by decide) (by decide)
  rw [show Cal.bef 1900 + Cal.cum 1900 1 + 2 = 2 from by decide] at HD
  have HD1 := Lib.hid (show ∀ W, Below w.heap.size w W → Calls Tryz.prog 9 #[.int .i64 2] W fun e w' => e = .returned (.agg #[.string ⟨#[50]⟩, .string ⟨#[49]⟩]) ∧ Below W.heap.size W w' from fun W hW => (of_nat 2 W (by decide) (HT.out W hW)).mono fun e w' ⟨t, h1, h2, h3⟩ => by
    obtain rfl : t = ⟨#[50]⟩ := ba_ext (by rw [h2]; decide +kernel)
    exact ⟨h1, h3⟩)
  go_enter Tryz.func228, Tryz.ntmps228
  go_upto_region 5 with (first
    | (go_at_call 254; (with_reducible refine (split0 _ m (HM.out _ HL0.out.bel)).mono ?_); rintro e w1 ⟨rfl, rfl⟩; have HL1 := Lib.hid (HL0.out.alloc' (g := w.heap.size + 1) (by simp) 9 #[.string ⟨#[49, 57, 48, 48]⟩, .string ⟨#[48, 49]⟩, .string ⟨#[48, 50]⟩]); obtain ⟨x0, x1, x2, -, -, -⟩ := (HL1.out.blk (g := w.heap.size + 1) (t := 9) (cs := #[.string ⟨#[49, 57, 48, 48]⟩, .string ⟨#[48, 49]⟩, .string ⟨#[48, 50]⟩]) (by simp)).three)
    | (go_at_call 255; (with_reducible refine (HC4.out _).mono ?_); rintro e w2 ⟨rfl, hb⟩; have HL2 := Lib.hid (HL1.out.step hb); clear hb x0 x1 x2; obtain ⟨x0, x1, x2, -, -, -⟩ := (HL2.out.blk (g := w.heap.size + 1) (t := 9) (cs := #[.string ⟨#[49, 57, 48, 48]⟩, .string ⟨#[48, 49]⟩, .string ⟨#[48, 50]⟩]) (by simp)).three))
  go_upto_region 6 with (go_at_call 255; (with_reducible refine (HC1.out _).mono ?_); rintro e w3 ⟨rfl, hb⟩; have HL3 := Lib.hid (HL2.out.step hb); clear hb x0 x1 x2; obtain ⟨x0, x1, x2, -, -, -⟩ := (HL3.out.blk (g := w.heap.size + 1) (t := 9) (cs := #[.string ⟨#[49, 57, 48, 48]⟩, .string ⟨#[48, 49]⟩, .string ⟨#[48, 50]⟩]) (by simp)).three)
  go_upto_region 7 with (go_at_call 255; (with_reducible refine (HC2.out _).mono ?_); rintro e w4 ⟨rfl, hb⟩; have HL4 := Lib.hid (HL3.out.step hb); clear hb x0 x1 x2)
  go_wp2_with (first
    | (go_at_call 256; (with_reducible refine (HD.out _).mono ?_); rintro e w5 ⟨rfl, hb⟩; have HL5 := Lib.hid (HL4.out.step hb); clear hb)
    | (go_at_call 9; (with_reducible refine (HD1.out _ HL5.out.bel).mono ?_); rintro e w6 ⟨rfl, hb⟩; have HL6 := Lib.hid (HL5.out.step hb); obtain ⟨x0, x1, f0, f1⟩ := (HL6.out.blk (g := w.heap.size) (t := 24) (cs := #[.string ⟨#[]⟩, .string ⟨#[]⟩]) (by simp)).two; clear hb))
  obtain ⟨-, q0, q1⟩ := (HL6.out.blk (g := w.heap.size) (t := 24) (cs := #[.string ⟨#[]⟩, .string ⟨#[]⟩]) (by simp)).two_set (.string ⟨#[50]⟩) (.string ⟨#[49]⟩)
  refine bodyPost_ret (v := .tuple #[.agg #[.string ⟨#[50]⟩, .string ⟨#[49]⟩], .bool true]) (by simp [results, Tryz.results228, go_sem, q0, q1]) rfl ⟨rfl, ?_⟩
  exact below_two HL6.out.bel (Nat.le_refl _) _ _
end Go.Proofs.YtigeipjkcidleaaGreatDoor
