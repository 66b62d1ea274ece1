/- axis.Undo, of a change that removes nothing. -/
import Derived.Test.YtjgojbkmeggmhaaDoorAxG
namespace Go.Proofs.YtjgojbkmeggmhaaDoor
open Go.RowKit

set_option maxRecDepth 100000 in
set_option maxHeartbeats 4000000 in
theorem undo_any (w : World) (v : Value) (l : List Ax.Step) (hv : Steps w v l) (hc : Ax.check l = 0) (hn : ∀ s ∈ l, s.1 ≠ 2) :
    Calls Tryd.prog 19 #[v] w fun e w' => ∃ v', e = .returned (.tuple #[v', .int .i64 0]) ∧ Steps w' v' (Ax.undo l) ∧ Below w.heap.size w w' := by
  obtain ⟨A, c, rfl⟩ := hv.shape
  obtain ⟨ho, hform, hbf, haf⟩ := Ax.ck_zero l _ _ _ hc
  have hl : l.length ≤ 4294967294 := by
    have := Ax.len_sum ho
    omega
  have HSZ := Lib.hid (fun (W : Ax.Wr) (M : Int) (x : List Ax.Step) (h : Ax.Lim W M) (hx : ∀ s ∈ x, 0 ≤ s.2) (hq : Ax.puts W (Ax.undo x) = Ax.puts Ax.Wr.zero (Ax.undo l)) =>
    Ax.Lim.undone h hx hq ho (by omega) (by omega))
  clear hbf haf
  have HC := Lib.hid (show Calls Tryd.prog 35 #[.slice A l.length c] w fun e w' => e = .returned (.int .i64 0) ∧ Below w.heap.size w w' from by rw [← hc]; exact axis_check w _ l hv (by omega))
  have HU := Lib.hid (And.intro (Ax.undo_writes ho hn hform) (Ax.undo_check hc hn))
  have HV := Lib.hid hv
  have HO := Lib.hid ho
  have HN := Lib.hid hn
  clear hv ho hform hc hn
  go_enter Tryd.func19, Tryd.ntmps19
  go_wp2_with (go_at_call 35; refine HC.out.mono ?_; rintro e w1 ⟨rfl, hb⟩; have HB1 := Lib.hid hb; clear hb)
  have HW0 := Lib.hid (show WrAt (w1.alloc (.cells #[.slice none 0 0, .int .i64 0, .int .i64 0] 90)) w1.heap.size (w1.heap.size + 1) Ax.Wr.zero from ⟨by omega, by simp, _, Blk.new w1 _ _, RowOf.nil _ _⟩)
  go_loopw [15] (fun i wr => ∃ (k : Nat) (W : Ax.Wr), k ≤ l.length ∧ i = .int .i64 k ∧ Hid (WrAt wr w1.heap.size (w1.heap.size + 1) W) ∧ Hid (Below w1.heap.size w1 wr) ∧ W.out.length ≤ 3 * k ∧ Hid (Ax.Lim W (2147483648 * k)) ∧ Hid (Ax.puts W (Ax.undo (l.drop k)) = Ax.puts Ax.Wr.zero (Ax.undo l))) (fun i _ => l.length - (intOf i).toNat)
  case atStart => exact ⟨0, Ax.Wr.zero, Nat.zero_le _, rfl, HW0, Lib.hid ((Below.refl _ _).alloc (Nat.le_refl _) _), by simp [Ax.Wr.zero], Lib.hid (by simp [Ax.Lim, Ax.Wr.zero]), Lib.hid rfl⟩
  case round =>
    obtain ⟨k, W, hk, rfl, HW, HB2, hwl, HL, HQ⟩ := hrel
    have HLM := Lib.hid (HSZ.out _ _ _ HL.out (fun s hs => Ax.okS_pos HO.out s (List.mem_of_mem_drop hs)) HQ.out)
    by_cases hlt : k < l.length
    · obtain ⟨⟨q, n⟩, htk⟩ : ∃ x, x = l[k] := ⟨_, rfl⟩
      have hok := HO.out l[k] (List.getElem_mem hlt)
      have hne := HN.out l[k] (List.getElem_mem hlt)
      rw [← htk] at hok hne
      obtain ⟨o1, o2, o3, o4⟩ := hok
      dsimp only at o1 o2 o3 o4 hne
      have hd : l.drop k = (q, n) :: l.drop (k + 1) := by rw [htk]; exact List.drop_eq_getElem_cons hlt
      have HQ1 := Lib.hid (show Ax.puts (W.put (Ax.und q) n) (Ax.undo (l.drop (k + 1))) = Ax.puts Ax.Wr.zero (Ax.undo l) from by rw [← HQ.out, hd]; rfl)
      obtain ⟨A', c', e', hc', -, hrd⟩ := ((HV.out.below HB1.out).below HB2.out)
      injection e' with e1 _ e3
      subst e1 e3
      obtain ⟨b, p, rfl, hblt, hcell⟩ := hrd (by omega)
      have g0 : wr.cell? ⟨b, p + k * 2, none⟩ = some (.int .i64 q) := by have := hcell k hlt 0 (by decide); rw [← htk] at this; exact this
      have g1 : wr.cell? ⟨b, p + k * 2 + 1, none⟩ = some (.int .i64 n) := by have := hcell k hlt 1 (by decide); rw [← htk] at this; exact this
      clear htk hcell hrd hd HQ
      have hq : q = 0 ∨ q = 1 := by omega
      have bk := Blk.new wr 103 #[.int .i64 q, .int .i64 n]
      have bk2 := bk.alloc (.cells #[.int .i64 0, .int .i64 2, .int .i64 1] 3)
      have ar := Blk.new (wr.alloc (.cells #[.int .i64 q, .int .i64 n] 103)) 3 #[.int .i64 0, .int .i64 2, .int .i64 1]
      rw [show (wr.alloc (.cells #[.int .i64 q, .int .i64 n] 103)).heap.size = wr.heap.size + 1 by simp] at ar
      obtain ⟨y0, y1, -, -⟩ := bk.two
      obtain ⟨z0, z1, -, -⟩ := bk2.two
      obtain ⟨a0, a1, a2, -, -, -⟩ := ar.three
      have HWW := Lib.hid ((HW.out.below ((Below.refl _ _).alloc (Nat.le_refl _) (.cells #[.int .i64 q, .int .i64 n] 103))).below ((Below.refl _ _).alloc (Nat.le_refl _) (.cells #[.int .i64 0, .int .i64 2, .int .i64 1] 3)))
      have HBB := Lib.hid ((HB2.out.alloc HB2.out.size (.cells #[.int .i64 q, .int .i64 n] 103)).alloc (by have := HB2.out.size; simp; omega) (.cells #[.int .i64 0, .int .i64 2, .int .i64 1] 3))
      clear HW HB2 bk bk2 ar
      rcases hq with rfl | rfl
      · have HQ2 := Lib.hid (show Ax.puts (W.put 0 n) (Ax.undo (l.drop (k + 1))) = Ax.puts Ax.Wr.zero (Ax.undo l) from HQ1.out)
        clear HQ1
        go_upto_region 8 with (fail)
        go_region_with (first | (go_at_call 38; refine (put_any _ w1.heap.size (w1.heap.size + 1) W _ _ 4294967294 (HWW.out.below (Below.refl _ _).drew) (by omega) HLM.out (by omega) (by omega) (by omega)).mono ?_; rintro e w5 ⟨rfl, h5, h6⟩; have HW := Lib.hid h5; have HX := Lib.hid h6; clear h5 h6) | fail)
        all_goals
          go_wp2_with fail
          exact ⟨⟨k + 1, _, by omega, by go_num, HW, Lib.hid (HBB.out.drew.trans (HX.out.below (by omega) (Nat.le_refl _))), by have := Ax.len_put W 0 n; omega, Lib.hid ((HL.out.put _ (by omega)).mono (by push_cast; omega)), HQ2⟩, by simp [intOf]; omega⟩
      · have HQ2 := Lib.hid (show Ax.puts (W.put 2 n) (Ax.undo (l.drop (k + 1))) = Ax.puts Ax.Wr.zero (Ax.undo l) from HQ1.out)
        clear HQ1
        go_upto_region 8 with (fail)
        go_region_with (first | (go_at_call 38; refine (put_any _ w1.heap.size (w1.heap.size + 1) W _ _ 4294967294 (HWW.out.below (Below.refl _ _).drew) (by omega) HLM.out (by omega) (by omega) (by omega)).mono ?_; rintro e w5 ⟨rfl, h5, h6⟩; have HW := Lib.hid h5; have HX := Lib.hid h6; clear h5 h6) | fail)
        all_goals
          go_wp2_with fail
          exact ⟨⟨k + 1, _, by omega, by go_num, HW, Lib.hid (HBB.out.drew.trans (HX.out.below (by omega) (Nat.le_refl _))), by have := Ax.len_put W 2 n; omega, Lib.hid ((HL.out.put _ (by omega)).mono (by push_cast; omega)), HQ2⟩, by simp [intOf]; omega⟩
    · obtain rfl : k = l.length := by omega
      have HZ := Lib.hid (show W = Ax.puts Ax.Wr.zero (Ax.undo l) from by rw [← HQ.out, List.drop_of_length_le (Nat.le_refl _)]; rfl)
      have HDN := Lib.hid (done_any _ _ _ W HW.out (by omega))
      go_wp2_with (go_at_call 41; refine HDN.out.mono ?_; rintro e w9 ⟨v9, r9, rfl, hr9, hb9⟩; have HR9 := Lib.hid hr9; have HB9 := Lib.hid hb9; clear hr9 hb9)
      go_ret2
      have hck : Ax.check W.all = 0 := by rw [HZ.out, HU.out.1]; exact HU.out.2
      rcases HR9.out with ⟨-, rfl, q3⟩ | ⟨q1, -, -⟩
      · exact ⟨_, rfl, by rw [HZ.out, HU.out.1] at q3; exact q3, (HB1.out.trans (HB2.out.mono HB1.out.size)).trans (HB9.out.below (by have := HB1.out.size; omega) HB1.out.size)⟩
      · exact absurd hck q1
end Go.Proofs.YtjgojbkmeggmhaaDoor
