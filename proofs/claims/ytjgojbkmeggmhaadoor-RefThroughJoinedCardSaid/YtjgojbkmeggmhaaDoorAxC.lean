/- axis: the writer's put, done. -/
import Derived.Test.YtjgojbkmeggmhaaDoorAxB
namespace Go.Proofs.YtjgojbkmeggmhaaDoor
open Go.RowKit

theorem own_last {w : World} {B : Nat} {v : Value} {pre : List Ax.Step} {j m : Int} (h : SOwn w B v (pre ++ [(j, m)])) :
    ∃ b c, v = .slice (some ⟨b, 0, none⟩) (pre.length + 1) c ∧ B ≤ b ∧ b < w.heap.size ∧ w.cell? ⟨b, pre.length * 2, none⟩ = some (.int .i64 j) ∧ w.cell? ⟨b, pre.length * 2 + 1, none⟩ = some (.int .i64 m) ∧
      w.frozen? ⟨b, pre.length * 2 + 1, none⟩ = false ∧ ∀ n, SOwn (w.setCell ⟨b, pre.length * 2 + 1, none⟩ (.int .i64 n)) B (.slice (some ⟨b, 0, none⟩) (pre.length + 1) c) (pre ++ [(j, n)]) := by
  obtain ⟨b, c, rfl, hb, hlt⟩ := RowOf.form h (by simp)
  have e : (pre ++ [(j, m)]).length = pre.length + 1 := by simp
  rw [e] at h ⊢
  have hfl : ∀ n : Int, (pre ++ [(j, n)]).flatMap stC = pre.flatMap stC ++ [.int .i64 j, .int .i64 n] := fun n => by
    rw [List.flatMap_append]; simp [stC]
  have hln : (pre.flatMap stC).length = pre.length * 2 := flat_len stC 2 (fun x => rfl) pre
  have h0 : w.ownsRow B 103 2 (.slice (some ⟨b, 0, none⟩) (pre.length + 1) c) (pre.length + 1) ((pre ++ [(j, m)]).flatMap stC) := by
    have := h
    unfold SOwn RowOf at this
    rw [e] at this
    exact this
  refine ⟨b, c, rfl, hb, hlt, ?_, ?_, World.ownsRow.frozenAt h0 _, fun n => ?_⟩
  · rw [World.ownsRow.cellAt h0 _ (by omega), hfl, List.getElem?_append_right (by omega), hln, Nat.sub_self]; rfl
  · rw [World.ownsRow.cellAt h0 _ (by omega), hfl, List.getElem?_append_right (by omega), hln, show pre.length * 2 + 1 - pre.length * 2 = 1 by omega]; rfl
  · have h1 := (World.ownsRow.stored h0 (pre.length * 2 + 1) (.int .i64 n)).1
    unfold SOwn RowOf
    rw [show (pre ++ [(j, n)]).length = pre.length + 1 by simp, hfl n]
    have e2 : ((pre ++ [(j, m)]).flatMap stC).set (pre.length * 2 + 1) (.int .i64 n) = pre.flatMap stC ++ [.int .i64 j, .int .i64 n] := by
      rw [hfl m, List.set_append_right _ _ (by omega), hln, show pre.length * 2 + 1 - pre.length * 2 = 1 by omega]; rfl
    rw [e2] at h1
    exact h1

namespace Ax
/-- The writer's numbers lie between 0 and M. -/
def Lim (W : Wr) (M : Int) : Prop := 0 ≤ W.add ∧ W.add ≤ M ∧ 0 ≤ W.cut ∧ W.cut ≤ M ∧ ∀ s ∈ W.out, 1 ≤ s.2 ∧ s.2 ≤ M
theorem Lim.flush {W : Wr} {M : Int} (h : Lim W M) : Lim W.flush M := by
  obtain ⟨h1, h2, h3, h4, h5⟩ := h
  refine ⟨Int.le_refl _, by show (0 : Int) ≤ M; omega, Int.le_refl _, by show (0 : Int) ≤ M; omega, fun s hs => ?_⟩
  unfold Wr.flush at hs
  dsimp only at hs
  rcases List.mem_append.1 hs with hs | hs
  · rcases List.mem_append.1 hs with hs | hs
    · exact h5 s hs
    · unfold adds at hs
      split at hs
      · rw [List.mem_singleton.1 hs]; dsimp only; omega
      · cases hs
  · unfold cuts at hs
    split at hs
    · rw [List.mem_singleton.1 hs]; dsimp only; omega
    · cases hs
theorem joinK_concat (pre : List Step) (j m n : Int) : joinK (pre ++ [(j, m)]) n = if j = 0 then pre ++ [(0, m + n)] else pre ++ [(j, m)] ++ [(0, n)] := by
  unfold joinK
  rw [List.getLast?_concat]
  dsimp only
  rw [List.dropLast_concat]
theorem list_end (l : List Step) : l = [] ∨ ∃ pre j m, l = pre ++ [(j, m)] := by
  rcases List.eq_nil_or_concat l with h | ⟨pre, ⟨j, m⟩, h⟩
  · exact .inl h
  · exact .inr ⟨pre, j, m, by simpa using h⟩
theorem Lim.put {W : Wr} {M : Int} (h : Lim W M) (k : Int) {n : Int} (hn : 0 ≤ n) : Lim (W.put k n) (M + n) := by
  have hf := h.flush
  obtain ⟨h1, h2, h3, h4, h5⟩ := h
  have h5' : ∀ s ∈ W.out, 1 ≤ s.2 ∧ s.2 ≤ M + n := fun s hs => by have := h5 s hs; omega
  unfold Wr.put
  split
  · exact ⟨h1, by omega, h3, by omega, h5'⟩
  split
  · exact ⟨by dsimp only; omega, by dsimp only; omega, h3, by dsimp only; omega, h5'⟩
  split
  · exact ⟨h1, by dsimp only; omega, by dsimp only; omega, by dsimp only; omega, h5'⟩
  · refine ⟨Int.le_refl _, by show (0 : Int) ≤ M + n; omega, Int.le_refl _, by show (0 : Int) ≤ M + n; omega, fun s hs => ?_⟩
    dsimp only at hs
    have h6 := hf.2.2.2.2
    rcases list_end W.flush.out with e | ⟨pre, j, m, e⟩
    · rw [e] at hs
      rw [show s = (0, n) from by simpa [joinK] using hs]
      dsimp only; omega
    · rw [e, joinK_concat] at hs
      rw [e] at h6
      have h7 := h6 (j, m) (by simp)
      dsimp only at h7
      split at hs
      · rcases List.mem_append.1 hs with hs | hs
        · have := h6 s (List.mem_append_left _ hs); omega
        · rw [List.mem_singleton.1 hs]; dsimp only; omega
      · rcases List.mem_append.1 hs with hs | hs
        · have := h6 s hs; omega
        · rw [List.mem_singleton.1 hs]; dsimp only; omega
theorem len_flush (W : Wr) : W.flush.out.length ≤ W.out.length + 2 := by
  unfold Wr.flush adds cuts
  dsimp only
  split <;> split <;> simp
theorem len_put (W : Wr) (k n : Int) : (W.put k n).out.length ≤ W.out.length + 3 := by
  have := len_flush W
  unfold Wr.put
  split
  · omega
  split
  · dsimp only; omega
  split
  · dsimp only; omega
  · dsimp only
    rcases list_end W.flush.out with e | ⟨pre, j, m, e⟩
    · rw [e]; simp [joinK]
    · rw [e, joinK_concat]
      rw [e] at this
      split <;> simp at this ⊢ <;> omega
end Ax

theorem Fl.set1 {w w1 : World} {g B : Nat} {v : Value} {out : List Ax.Step} {add cut : Int} (h : Fl w g B v out add cut w1) (y : Int) : Fl w g B v out y cut (w1.setCell ⟨g, 1, none⟩ (.int .i64 y)) :=
  ⟨h.lt, by have := h.le; simpa [World.setCell] using this, by
    have h1 := h.blk.set_ 1 (.int .i64 y)
    simpa using h1, SOwn.apart h.own h.lt 1 _, h.bx.set 1 _⟩
theorem Fl.set2 {w w1 : World} {g B : Nat} {v : Value} {out : List Ax.Step} {add cut : Int} (h : Fl w g B v out add cut w1) (y : Int) : Fl w g B v out add y (w1.setCell ⟨g, 2, none⟩ (.int .i64 y)) :=
  ⟨h.lt, by have := h.le; simpa [World.setCell] using this, by
    have h1 := h.blk.set_ 2 (.int .i64 y)
    simpa using h1, SOwn.apart h.own h.lt 2 _, h.bx.set 2 _⟩
theorem Fl.at {w w1 : World} {g B : Nat} {W : Ax.Wr} (h : WrAt w1 g B W) (hb : Bx g B w w1) : ∃ v, Fl w g B v W.out W.add W.cut w1 := by
  obtain ⟨h1, h2, v, h3, h4⟩ := h
  exact ⟨v, h1, h2, h3, h4, hb⟩

set_option maxRecDepth 100000 in
set_option maxHeartbeats 4000000 in
theorem put_any (w : World) (g B : Nat) (W : Ax.Wr) (k n M : Int) (h : WrAt w g B W) (hl : W.out.length ≤ 100000000000) (hM : Ax.Lim W M) (hMM : M ≤ 100000000000000000) (hn0 : 0 ≤ n) (hn : n ≤ 100000000000000000) :
    Calls Tryd.prog 38 #[.pointer (some ⟨g, 0, none⟩), .int .i64 k, .int .i64 n] w fun e w' => e = .returned (.tuple #[]) ∧ WrAt w' g B (W.put k n) ∧ Bx g B w w' := by
  by_cases h0 : n = 0
  · subst h0
    have HW := Lib.hid (show W.put k 0 = W from by rw [Ax.Wr.put, if_pos rfl])
    go_enter Tryd.func38, Tryd.ntmps38
    go_wp2_with fail
    refine bodyPost_end (v := .tuple #[]) (by simp [results, Tryd.results38]) rfl ?_
    exact ⟨rfl, by rw [HW.out]; exact h, Bx.refl _ _ _⟩
  have z0 : ((n : Int) == 0) = false := by rw [beq_eq_false_iff_ne]; exact h0
  by_cases h1 : k = 1
  · subst h1
    have HW := Lib.hid (show W.put 1 n = ⟨W.out, W.add + n, W.cut⟩ from by rw [Ax.Wr.put, if_neg h0, if_pos rfl])
    obtain ⟨v, hfl⟩ := h.fl
    obtain ⟨m1, m2, -, -, -⟩ := hM
    have FL := Lib.hid hfl
    obtain ⟨x0, x1, x2, f0, f1, f2⟩ := hfl.blk.three
    clear h hfl
    obtain ⟨out, add, cut⟩ := W
    dsimp only at *
    go_enter Tryd.func38, Tryd.ntmps38
    go_wp2_with fail
    refine bodyPost_end (v := .tuple #[]) (by simp [results, Tryd.results38]) rfl ?_
    exact ⟨rfl, by rw [HW.out]; exact (FL.out.set1 _).to.1, (FL.out.set1 _).to.2⟩
  by_cases h2 : k = 2
  · subst h2
    have HW := Lib.hid (show W.put 2 n = ⟨W.out, W.add, W.cut + n⟩ from by rw [Ax.Wr.put, if_neg h0, if_neg (by decide), if_pos rfl])
    obtain ⟨v, hfl⟩ := h.fl
    obtain ⟨-, -, m1, m2, -⟩ := hM
    have FL := Lib.hid hfl
    obtain ⟨x0, x1, x2, f0, f1, f2⟩ := hfl.blk.three
    clear h hfl h1
    obtain ⟨out, add, cut⟩ := W
    dsimp only at *
    go_enter Tryd.func38, Tryd.ntmps38
    go_wp2_with fail
    refine bodyPost_end (v := .tuple #[]) (by simp [results, Tryd.results38]) rfl ?_
    exact ⟨rfl, by rw [HW.out]; exact (FL.out.set2 _).to.1, (FL.out.set2 _).to.2⟩
  have z1 : ((k : Int) == 1) = false := by rw [beq_eq_false_iff_ne]; exact h1
  have z2 : ((k : Int) == 2) = false := by rw [beq_eq_false_iff_ne]; exact h2
  have HF := Lib.hid (flush_any w g B W h (by omega))
  have HW := Lib.hid (show W.put k n = ⟨Ax.joinK W.flush.out n, 0, 0⟩ from by rw [Ax.Wr.put, if_neg h0, if_neg h1, if_neg h2])
  have hL := Ax.len_flush W
  have hF := hM.flush
  have e0 : W.flush.add = 0 := rfl
  have e1 : W.flush.cut = 0 := rfl
  generalize W.flush = F at *
  clear hM h1 h2 h0 h
  obtain ⟨out, fa, fc⟩ := F
  dsimp only at e0 e1 hL hF HW
  subst e0 e1
  have h6 := hF.2.2.2.2
  dsimp only at h6
  clear hF
  rcases Ax.list_end out with e | ⟨pre, j, m, e⟩
  · subst e
    clear h6
    go_enter Tryd.func38, Tryd.ntmps38
    go_wp2_with (first
      | (go_at_call 82; refine HF.out.mono ?_; rintro e w1 ⟨rfl, hw, hbx⟩; obtain ⟨v, hfl⟩ := Fl.at hw hbx; obtain ⟨A, c, rfl⟩ := (hfl.own.reads fun x => rfl).shape; have FL1 := Lib.hid hfl; obtain ⟨x0, x1, x2, f0, f1, f2⟩ := hfl.blk.three; clear hw hbx hfl)
      | (at_builtin; refine wp_row1 41 103 2 16 stC _ Tryd.underlying41 st_info rfl (by decide) st_len rfl _ _ rfl B _ [] rfl FL1.out.own (0, n) _ ?_ rfl ?_ ?_ FL1.out.le ?_; rfl; ((try simp only [List.length_nil]); omega); (unfold maxLen; (try simp only [List.length_nil]); omega); intro v3 w3 ho3 hb3 _; obtain ⟨g3, c3, rfl, -, -⟩ := RowOf.form ho3 (by simp); have FL3 := Lib.hid (FL1.out.app hb3 ho3); clear x0 x1 x2 f0 f1 f2; obtain ⟨x0, x1, x2, f0, f1, f2⟩ := (FL1.out.blk.below hb3 FL1.out.lt).three; clear ho3 hb3))
    refine bodyPost_end (v := .tuple #[]) (by simp [results, Tryd.results38]) rfl ?_
    exact ⟨rfl, by rw [HW.out]; exact FL3.out.to.1, FL3.out.to.2⟩
  · subst e
    have h7 := h6 (j, m) (by simp)
    dsimp only at h7
    clear h6
    have hpl : pre.length ≤ 100000000002 := by simp at hL; omega
    clear hL
    by_cases hj : j = 0
    · subst hj
      go_enter Tryd.func38, Tryd.ntmps38
      go_wp2_with (first
        | (go_at_call 82; refine HF.out.mono ?_; rintro e w1 ⟨rfl, hw, hbx⟩; obtain ⟨v, hfl⟩ := Fl.at hw hbx; obtain ⟨b, c, rfl, hbb, hbl, y0, y1, y2, hst⟩ := own_last hfl.own; have HST := Lib.hid hst; have FL1 := Lib.hid hfl; obtain ⟨x0, x1, x2, f0, f1, f2⟩ := hfl.blk.three; clear hw hbx hfl hst))
      refine bodyPost_ret (v := .tuple #[]) (by simp [results, Tryd.results38]) rfl ?_
      refine ⟨rfl, ?_, ?_⟩
      · rw [HW.out]
        have e : Ax.joinK (pre ++ [(0, m)]) n = pre ++ [(0, m + n)] := by rw [Ax.joinK_concat, if_pos rfl]
        rw [e]
        have h1 := FL1.out.lt
        refine ⟨h1, by have := FL1.out.le; simpa [World.setCell] using this, _, FL1.out.blk.far (p := ⟨b, pre.length * 2 + 1, none⟩) (by dsimp only; omega) _, HST.out _⟩
      · exact FL1.out.bx.trans (Bx.of ((Below.refl _ _).setCell (p := ⟨b, pre.length * 2 + 1, none⟩) hbb _))
    · have hjz : ((j : Int) == 0) = false := by rw [beq_eq_false_iff_ne]; exact hj
      have e : Ax.joinK (pre ++ [(j, m)]) n = pre ++ [(j, m)] ++ [(0, n)] := by rw [Ax.joinK_concat, if_neg hj]
      have HW2 := Lib.hid (HW.out.trans (by rw [e]))
      clear hj e HW
      go_enter Tryd.func38, Tryd.ntmps38
      go_wp2_with (first
        | (go_at_call 82; refine HF.out.mono ?_; rintro e w1 ⟨rfl, hw, hbx⟩; obtain ⟨v, hfl⟩ := Fl.at hw hbx; obtain ⟨b, c, rfl, hbb, hbl, y0, y1, y2, -⟩ := own_last hfl.own; have FL1 := Lib.hid hfl; obtain ⟨x0, x1, x2, f0, f1, f2⟩ := hfl.blk.three; clear hw hbx hfl)
        | (at_builtin; refine wp_row1 41 103 2 16 stC _ Tryd.underlying41 st_info rfl (by decide) st_len rfl _ _ rfl B (.slice (some ⟨b, 0, none⟩) (pre.length + 1) c) (pre ++ [(j, m)]) rfl FL1.out.own (0, n) _ ?_ rfl ?_ ?_ FL1.out.le ?_; rfl; ((try simp only [List.length_append, List.length_cons, List.length_nil]); omega); (unfold maxLen; (try simp only [List.length_append, List.length_cons, List.length_nil]); omega); intro v3 w3 ho3 hb3 _; obtain ⟨g3, c3, rfl, -, -⟩ := RowOf.form ho3 (by simp); have FL3 := Lib.hid (FL1.out.app hb3 ho3); clear x0 x1 x2 f0 f1 f2; obtain ⟨x0, x1, x2, f0, f1, f2⟩ := (FL1.out.blk.below hb3 FL1.out.lt).three; clear ho3 hb3))
      refine bodyPost_end (v := .tuple #[]) (by simp [results, Tryd.results38]) rfl ?_
      have hx := FL3.out
      simp only [List.length_append, List.length_cons, List.length_nil, Nat.zero_add] at hx
      exact ⟨rfl, by rw [HW2.out]; exact hx.to.1, hx.to.2⟩

set_option maxRecDepth 100000 in
set_option maxHeartbeats 4000000 in
theorem done_any (w : World) (g B : Nat) (W : Ax.Wr) (h : WrAt w g B W) (hl : W.out.length ≤ 100000000000) :
    Calls Tryd.prog 41 #[.pointer (some ⟨g, 0, none⟩)] w fun e w' => ∃ v r, e = .returned (.tuple #[v, .int .i64 r]) ∧ ((Ax.check W.all = 0 ∧ r = 0 ∧ Steps w' v W.all) ∨ (Ax.check W.all ≠ 0 ∧ r = 3 ∧ v = .slice none 0 0)) ∧ Bx g B w w' := by
  have HF := Lib.hid (flush_any w g B W h (by omega))
  have hL := Ax.len_flush W
  rw [show W.flush.out = W.all from rfl] at hL
  have HA := Lib.hid (show W.flush.out = W.all from rfl)
  by_cases hc : Ax.check W.all = 0
  · have HC := Lib.hid (show ∀ W' v, Steps W' v W.all → Calls Tryd.prog 35 #[v] W' fun e w' => e = .returned (.int .i64 0) ∧ Below W'.heap.size W' w' from fun W' v hv => by rw [← hc]; exact axis_check W' v W.all hv (by omega))
    have HCC := Lib.hid hc
    clear hL h hc
    go_enter Tryd.func41, Tryd.ntmps41
    go_wp2_with (first
      | (go_at_call 82; refine HF.out.mono ?_; rintro e w1 ⟨rfl, hw, hbx⟩; obtain ⟨v, hfl⟩ := Fl.at hw hbx; rw [HA.out] at hfl; have hvv := hfl.own.reads fun x => rfl; obtain ⟨A, c, rfl⟩ := hvv.shape; have HV := Lib.hid hvv; have FL1 := Lib.hid hfl; obtain ⟨x0, x1, x2, f0, f1, f2⟩ := hfl.blk.three; clear hw hbx hfl hvv)
      | (go_at_call 35; refine (HC.out _ _ HV.out).mono ?_; rintro e w2 ⟨rfl, hb⟩; have HB2 := Lib.hid hb; clear x0 x1 x2 f0 f1 f2; obtain ⟨x0, x1, x2, f0, f1, f2⟩ := (FL1.out.blk.later hb).three; clear hb))
    go_ret2
    exact ⟨_, _, rfl, .inl ⟨HCC.out, rfl, HV.out.below HB2.out⟩, FL1.out.bx.trans (Bx.of (HB2.out.mono FL1.out.le))⟩
  · have HC := Lib.hid fun W' v (hv : Steps W' v W.all) => axis_check W' v W.all hv (by omega)
    have hz : ((Ax.check W.all : Int) != 0) = true := by rw [bne_iff_ne]; exact hc
    have HCC := Lib.hid hc
    clear hL h hc
    go_enter Tryd.func41, Tryd.ntmps41
    go_wp2_with (first
      | (go_at_call 82; refine HF.out.mono ?_; rintro e w1 ⟨rfl, hw, hbx⟩; obtain ⟨v, hfl⟩ := Fl.at hw hbx; rw [HA.out] at hfl; have hvv := hfl.own.reads fun x => rfl; obtain ⟨A, c, rfl⟩ := hvv.shape; have HV := Lib.hid hvv; have FL1 := Lib.hid hfl; obtain ⟨x0, x1, x2, f0, f1, f2⟩ := hfl.blk.three; clear hw hbx hfl hvv)
      | (go_at_call 35; refine (HC.out _ _ HV.out).mono ?_; rintro e w2 ⟨rfl, hb⟩; have HB2 := Lib.hid hb; clear x0 x1 x2 f0 f1 f2; obtain ⟨x0, x1, x2, f0, f1, f2⟩ := (FL1.out.blk.later hb).three; clear hb))
    go_ret2
    exact ⟨_, _, rfl, .inr ⟨HCC.out, rfl, rfl⟩, FL1.out.bx.trans (Bx.of (HB2.out.mono FL1.out.le))⟩
end Go.Proofs.YtjgojbkmeggmhaaDoor
