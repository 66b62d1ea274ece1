/- cellref.Through's walk. -/
import Derived.Test.YtjgojbkmeggmhaaDoorAxM
import Derived.Test.YtjgojbkmeggmhaaDoorMem10
namespace Go.Proofs.YtjgojbkmeggmhaaDoor
open Go.RowKit

/-- Through's memory: the reference at z, the result at z + 1. -/
structure Tb (w0 w : World) (r : Ref) : Prop where
  a : Blk w w0.heap.size 40 r.cs
  b : Blk w (w0.heap.size + 1) 40 #[.string ⟨#[]⟩, .int .i64 0, .int .i64 0, .int .i64 0, .int .i64 0, .int .i64 0, .bool false, .bool false, .bool false, .bool false]
  bel : Below w0.heap.size w0 w
section
variable {w0 w w' : World} {sh : ByteArray} {k ro co ro2 co2 : Int} {ar ac ar2 ac2 : Bool}
theorem Tb.below {r : Ref} (h : Tb w0 w r) (hb : Below w.heap.size w w') : Tb w0 w' r := ⟨h.a.later hb, h.b.later hb, h.bel.trans (hb.mono h.bel.size)⟩
theorem Tb.set24 (h : Tb w0 w ⟨sh, k, ro, co, ro2, co2, ar, ac, ar2, ac2⟩) (f g : Int) : Tb w0 ((w.setCell ⟨w0.heap.size, 2, none⟩ (.int .i64 f)).setCell ⟨w0.heap.size, 4, none⟩ (.int .i64 g)) ⟨sh, k, f, co, g, co2, ar, ac, ar2, ac2⟩ :=
  ⟨by have := (h.a.set_ 2 (.int .i64 f)).set_ 4 (.int .i64 g); simpa using this, (h.b.far (by dsimp only; omega) _).far (by dsimp only; omega) _, (h.bel.setCell (by dsimp only; omega) _).setCell (by dsimp only; omega) _⟩
theorem Tb.set35 (h : Tb w0 w ⟨sh, k, ro, co, ro2, co2, ar, ac, ar2, ac2⟩) (f g : Int) : Tb w0 ((w.setCell ⟨w0.heap.size, 3, none⟩ (.int .i64 f)).setCell ⟨w0.heap.size, 5, none⟩ (.int .i64 g)) ⟨sh, k, ro, f, ro2, g, ar, ac, ar2, ac2⟩ :=
  ⟨by have := (h.a.set_ 3 (.int .i64 f)).set_ 5 (.int .i64 g); simpa using this, (h.b.far (by dsimp only; omega) _).far (by dsimp only; omega) _, (h.bel.setCell (by dsimp only; omega) _).setCell (by dsimp only; omega) _⟩
theorem Tb.set45 (h : Tb w0 w ⟨sh, k, ro, co, ro2, co2, ar, ac, ar2, ac2⟩) (f g : Int) : Tb w0 ((w.setCell ⟨w0.heap.size, 4, none⟩ (.int .i64 f)).setCell ⟨w0.heap.size, 5, none⟩ (.int .i64 g)) ⟨sh, k, ro, co, f, g, ar, ac, ar2, ac2⟩ :=
  ⟨by have := (h.a.set_ 4 (.int .i64 f)).set_ 5 (.int .i64 g); simpa using this, (h.b.far (by dsimp only; omega) _).far (by dsimp only; omega) _, (h.bel.setCell (by dsimp only; omega) _).setCell (by dsimp only; omega) _⟩
theorem Tb.start (w0 : World) (r : Ref) : Tb w0 ((w0.alloc (.cells r.cs 40)).alloc (.cells #[.string ⟨#[]⟩, .int .i64 0, .int .i64 0, .int .i64 0, .int .i64 0, .int .i64 0, .bool false, .bool false, .bool false, .bool false] 40)) r := by
  have b := Blk.new (w0.alloc (.cells r.cs 40)) 40 #[.string ⟨#[]⟩, .int .i64 0, .int .i64 0, .int .i64 0, .int .i64 0, .int .i64 0, .bool false, .bool false, .bool false, .bool false]
  rw [show (w0.alloc (.cells r.cs 40)).heap.size = w0.heap.size + 1 by simp] at b
  exact ⟨(Blk.new w0 _ _).alloc _, b, ((Below.refl _ _).alloc (Nat.le_refl _) _).alloc (by simp) _⟩
end

set_option maxRecDepth 100000 in
set_option maxHeartbeats 4000000 in
theorem through_any (r : Ref) (w : World) (v : Value) (l : List Ax.Step) (h : r.check = 0) (hv : Steps w v l) (hl : l.length ≤ 100000000000) (hc : Ax.check l = 0) :
    Calls Tryd.prog 17 #[r.v, v, .slice none 0 0] w fun e w' => e = .returned (.tuple #[(r.thr l).v, .int .i64 0]) ∧ Below w.heap.size w w' := by
  obtain ⟨A, c, rfl⟩ := hv.shape
  obtain ⟨ho, -, hb, ha⟩ := Ax.ck_zero l _ _ _ hc
  have hcz := Ref.check_ok h
  have hlen := Cr.nameE_len hcz.2.2.1
  have hC := fun W => check_any r W (by unfold maxLen; simp at hlen; omega)
  rw [h] at hC
  have HC := Lib.hid hC
  have HCK := Lib.hid (show ∀ W, Below w.heap.size w W → Calls Tryd.prog 35 #[.slice A l.length c] W fun e w' => e = .returned (.int .i64 0) ∧ Below W.heap.size W w' from fun W hW => by rw [← hc]; exact axis_check W _ l (hv.below hW) (by omega))
  have HCN := Lib.hid (show ∀ W, Calls Tryd.prog 35 #[.slice none 0 0] W fun e w' => e = .returned (.int .i64 0) ∧ Below W.heap.size W w' from fun W => axis_check W _ [] (Reads.nil _) (by simp))
  have HH := Lib.hid fun W lo hi (hW : Below w.heap.size w W) h1 h2 => hull_any W _ l lo hi (hv.below hW) (by omega) ho (by omega) (by omega) h1 h2
  have HN := Lib.hid (show ∀ W lo hi, 0 ≤ lo → lo ≤ hi → hi < 1073741824 → Calls Tryd.prog 45 #[.slice none 0 0, .int .i64 lo, .int .i64 hi] W fun e w' => e = .returned (.tuple #[.int .i64 lo, .int .i64 hi, .bool true]) ∧ Below W.heap.size W w' from fun W lo hi h1 h2 h3 => by
    have := hull_any W _ [] lo hi (Reads.nil _) (by simp) (by simp) (by simp [Ax.bef]) (by simp [Ax.aft]) (by omega) (by omega)
    rw [Ax.hull_nil h1 h2 h3] at this
    exact this)
  have hF := fun (R : Ref) W => fitting_any R W
  have HF := Lib.hid hF
  have HFS := Lib.hid (fitting_same h)
  clear hC hF hlen hv ho hb ha hc h
  have HS := Lib.hid (Tb.start w r)
  have HT := Lib.hid (show r.thr l = if r.kind = 4 ∨ r.kind = 3 then r else match Ax.Hull l r.row r.low2 with
    | none => Ref.bad
    | some u => (r.rows u.1 u.2).fitting from rfl)
  generalize r.thr l = T at *
  obtain ⟨sh, k, ro, co, ro2, co2, ar, ac, ar2, ac2⟩ := r
  obtain ⟨k0, k4, -, hm, h1, h2, h5, h6, ho⟩ := hcz
  dsimp only at *
  have HM := Lib.hid hm
  clear hm
  have i0 : ∀ W, (Instr.index 98 (.agg #[.slice A l.length c, .slice none 0 0]) (.int .i64 0)).run Tryd.prog W = .ok (.slice A l.length c) W := fun _ => by kernel_rfl
  have i1 : ∀ W, (Instr.index 98 (.agg #[.slice A l.length c, .slice none 0 0]) (.int .i64 1)).run Tryd.prog W = .ok (.slice none 0 0) W := fun _ => by kernel_rfl
  go_enter Tryd.func17, Tryd.ntmps17
  go_wp2_with (go_at_call 15; refine (HC.out _).mono ?_; rintro e w1 ⟨rfl, hb⟩; have HB1 := Lib.hid (HS.out.below hb); clear hb)
  go_loopw [22] (fun i wr => ∃ j : Nat, j ≤ 2 ∧ i = .int .i64 j ∧ Hid (Tb w wr ⟨sh, k, ro, co, ro2, co2, ar, ac, ar2, ac2⟩)) (fun i _ => 2 - (intOf i).toNat)
  case atStart => exact ⟨0, by omega, rfl, HB1⟩
  case round =>
    obtain ⟨j, hj, rfl, HB⟩ := hrel
    rcases (show j = 0 ∨ j = 1 ∨ j = 2 by omega) with rfl | rfl | rfl
    · go_wp2_with (go_at_call 35; refine (HCK.out _ HB.out.bel).mono ?_; rintro e w2 ⟨rfl, hb⟩; have HB2 := Lib.hid (HB.out.below hb); clear hb)
      exact ⟨⟨1, by omega, by go_num, HB2⟩, by simp [intOf]⟩
    · go_wp2_with (go_at_call 35; refine (HCN.out _).mono ?_; rintro e w2 ⟨rfl, hb⟩; have HB2 := Lib.hid (HB.out.below hb); clear hb)
      exact ⟨⟨2, by omega, by go_num, HB2⟩, by simp [intOf]⟩
    · obtain ⟨c0, c1, c2, c3, c4, c5, c6, c7, c8, c9⟩ := HB.out.a.ten
      by_cases hk4 : k = 4
      · subst hk4
        have hT : T = ⟨sh, 4, ro, co, ro2, co2, ar, ac, ar2, ac2⟩ := by rw [HT.out, if_pos (.inl rfl)]
        subst hT
        obtain ⟨z0, z1, z2, z3, z4, z5, z6, z7, z8, z9⟩ := HB.out.b.ten
        obtain ⟨q0, q1, q2, q3, q4, q5, q6, q7, q8, q9⟩ := HB.out.b.tenf
        go_wp2_with fail
        obtain ⟨-, n0, n1, n2, n3, n4, n5, n6, n7, n8, n9⟩ := HB.out.b.ten_set (.string sh) (.int .i64 4) (.int .i64 ro) (.int .i64 co) (.int .i64 ro2) (.int .i64 co2) (.bool ar) (.bool ac) (.bool ar2) (.bool ac2)
        refine bodyPost_ret (v := .tuple #[.agg #[.string sh, .int .i64 4, .int .i64 ro, .int .i64 co, .int .i64 ro2, .int .i64 co2, .bool ar, .bool ac, .bool ar2, .bool ac2], .int .i64 0]) (by simp [results, Tryd.results17, go_sem, n0, n1, n2, n3, n4, n5, n6, n7, n8, n9]) rfl ⟨rfl, below_ten HB.out.bel (by omega) _ _ _ _ _ _ _ _ _ _⟩
      by_cases hk3 : k = 3
      · subst hk3
        have hT : T = ⟨sh, 3, ro, co, ro2, co2, ar, ac, ar2, ac2⟩ := by rw [HT.out, if_pos (.inr rfl)]
        subst hT
        have HF3 := Lib.hid (show ∀ W, Calls Tryd.prog 46 #[.agg #[.string sh, .int .i64 3, .int .i64 ro, .int .i64 co, .int .i64 ro2, .int .i64 co2, .bool ar, .bool ac, .bool ar2, .bool ac2]] W fun e w' => e = .returned (Ref.v ⟨sh, 3, ro, co, ro2, co2, ar, ac, ar2, ac2⟩) ∧ Below W.heap.size W w' from fun W => by
          have := HF.out ⟨sh, 3, ro, co, ro2, co2, ar, ac, ar2, ac2⟩ W
          rw [HFS.out] at this
          exact this)
        have hcc : co ≤ co2 := by omega
        have h35 : ∀ i, HB.out.a.set_ 0 (.int .i64 i) = HB.out.a.set_ 0 (.int .i64 i) := fun _ => rfl
        clear h35
        obtain ⟨p0, p1, p2, p3, p4, p5, p6, p7, p8, p9⟩ := HB.out.a.tenf
        go_wp2_with (first
          | (go_at_call 45; refine (HN.out _ _ _ (by omega) hcc (by omega)).mono ?_; rintro e w4 ⟨rfl, hb⟩; have h4 := HB.out.below hb; have HB4 := Lib.hid h4; clear c0 c1 c2 c3 c4 c5 c6 c7 c8 c9 p0 p1 p2 p3 p4 p5 p6 p7 p8 p9; obtain ⟨c0, c1, c2, c3, c4, c5, c6, c7, c8, c9⟩ := h4.a.ten; obtain ⟨p0, p1, p2, p3, p4, p5, p6, p7, p8, p9⟩ := h4.a.tenf; have HB5 := Lib.hid (h4.set35 co co2); clear h4 hb)
          | (go_at_call 46; refine (HF3.out _).mono ?_; rintro e w6 ⟨rfl, hb⟩; have HB6 := Lib.hid (HB5.out.below hb); clear hb; obtain ⟨z0, z1, z2, z3, z4, z5, z6, z7, z8, z9⟩ := HB6.out.b.ten; obtain ⟨q0, q1, q2, q3, q4, q5, q6, q7, q8, q9⟩ := HB6.out.b.tenf))
        obtain ⟨-, n0, n1, n2, n3, n4, n5, n6, n7, n8, n9⟩ := HB6.out.b.ten_set (.string sh) (.int .i64 3) (.int .i64 ro) (.int .i64 co) (.int .i64 ro2) (.int .i64 co2) (.bool ar) (.bool ac) (.bool ar2) (.bool ac2)
        refine bodyPost_ret (v := .tuple #[.agg #[.string sh, .int .i64 3, .int .i64 ro, .int .i64 co, .int .i64 ro2, .int .i64 co2, .bool ar, .bool ac, .bool ar2, .bool ac2], .int .i64 0]) (by simp [results, Tryd.results17, go_sem, n0, n1, n2, n3, n4, n5, n6, n7, n8, n9]) rfl ⟨rfl, below_ten HB6.out.bel (by omega) _ _ _ _ _ _ _ _ _ _⟩
      rcases (show k = 0 ∨ k = 1 ∨ k = 2 by omega) with rfl | rfl | rfl
      · have HL := Lib.hid (show T = match Ax.Hull l ro ro with
          | none => Ref.bad
          | some u => (Ref.rows ⟨sh, 0, ro, co, ro2, co2, ar, ac, ar2, ac2⟩ u.1 u.2).fitting from HT.out)
        obtain ⟨p0, p1, p2, p3, p4, p5, p6, p7, p8, p9⟩ := HB.out.a.tenf
        have HB0 := Lib.hid (HB.out.set45 ro co)
        cases hH : Ax.Hull l ro ro with
        | none =>
          have hT : T = Ref.bad := by rw [HL.out, hH]
          subst hT
          have HR := Lib.hid (show ∀ W, Below w.heap.size w W → Calls Tryd.prog 45 #[.slice A l.length c, .int .i64 ro, .int .i64 ro] W fun e w' => e = .returned (.tuple #[.int .i64 0, .int .i64 0, .bool false]) ∧ Below W.heap.size W w' from fun W hW => by
            have := HH.out W ro ro hW (by omega) (by omega)
            rw [hH] at this
            exact this)
          clear hH
          go_wp2_with (go_at_call 45; refine (HR.out _ HB0.out.bel).mono ?_; rintro e w4 ⟨rfl, hb⟩; have h4 := HB0.out.below hb; clear c0 c1 c2 c3 c4 c5 c6 c7 c8 c9 p0 p1 p2 p3 p4 p5 p6 p7 p8 p9; obtain ⟨c0, c1, c2, c3, c4, c5, c6, c7, c8, c9⟩ := h4.a.ten; obtain ⟨p0, p1, p2, p3, p4, p5, p6, p7, p8, p9⟩ := h4.a.tenf; have HB5 := Lib.hid (h4.set24 0 0); clear h4 hb; obtain ⟨z0, z1, z2, z3, z4, z5, z6, z7, z8, z9⟩ := HB5.out.b.ten; obtain ⟨q0, q1, q2, q3, q4, q5, q6, q7, q8, q9⟩ := HB5.out.b.tenf)
          obtain ⟨-, n0, n1, n2, n3, n4, n5, n6, n7, n8, n9⟩ := HB5.out.b.ten_set (.string ⟨#[]⟩) (.int .i64 4) (.int .i64 0) (.int .i64 0) (.int .i64 0) (.int .i64 0) (.bool false) (.bool false) (.bool false) (.bool false)
          refine bodyPost_ret (v := .tuple #[.agg #[.string ⟨#[]⟩, .int .i64 4, .int .i64 0, .int .i64 0, .int .i64 0, .int .i64 0, .bool false, .bool false, .bool false, .bool false], .int .i64 0]) (by simp [results, Tryd.results17, go_sem, n0, n1, n2, n3, n4, n5, n6, n7, n8, n9]) rfl ⟨rfl, below_ten HB5.out.bel (by omega) _ _ _ _ _ _ _ _ _ _⟩
        | some u =>
          obtain ⟨f, g⟩ := u
          have hT : T = (Ref.rows ⟨sh, 0, ro, co, ro2, co2, ar, ac, ar2, ac2⟩ f g).fitting := by rw [HL.out, hH]
          have HR := Lib.hid (show ∀ W, Below w.heap.size w W → Calls Tryd.prog 45 #[.slice A l.length c, .int .i64 ro, .int .i64 ro] W fun e w' => e = .returned (.tuple #[.int .i64 f, .int .i64 g, .bool true]) ∧ Below W.heap.size W w' from fun W hW => by
            have := HH.out W ro ro hW (by omega) (by omega)
            rw [hH] at this
            exact this)
          have HFT := Lib.hid (show ∀ W, Calls Tryd.prog 46 #[.agg #[.string sh, .int .i64 0, .int .i64 f, .int .i64 co, .int .i64 g, .int .i64 co, .bool ar, .bool ac, .bool ar2, .bool ac2]] W fun e w' => e = .returned T.v ∧ Below W.heap.size W w' from fun W => by rw [hT]; exact HF.out _ W)
          clear hH hT HL HT
          have hcc : co ≤ co := by omega
          obtain ⟨tsh, tk, tro, tco, tro2, tco2, tar, tac, tar2, tac2⟩ := T
          go_wp2_with (first
            | (go_at_call 45; first | ((with_reducible refine (HR.out _ HB0.out.bel).mono ?_); rintro e w4 ⟨rfl, hb⟩; have h4 := HB0.out.below hb; clear c0 c1 c2 c3 c4 c5 c6 c7 c8 c9 p0 p1 p2 p3 p4 p5 p6 p7 p8 p9; obtain ⟨c0, c1, c2, c3, c4, c5, c6, c7, c8, c9⟩ := h4.a.ten; obtain ⟨p0, p1, p2, p3, p4, p5, p6, p7, p8, p9⟩ := h4.a.tenf; have HB5 := Lib.hid (h4.set24 f g); clear h4 hb) | ((with_reducible refine (HN.out _ _ _ (by omega) hcc (by omega)).mono ?_); rintro e w5 ⟨rfl, hb⟩; have h4 := HB5.out.below hb; clear c0 c1 c2 c3 c4 c5 c6 c7 c8 c9 p0 p1 p2 p3 p4 p5 p6 p7 p8 p9; obtain ⟨c0, c1, c2, c3, c4, c5, c6, c7, c8, c9⟩ := h4.a.ten; obtain ⟨p0, p1, p2, p3, p4, p5, p6, p7, p8, p9⟩ := h4.a.tenf; have h5 := h4.set35 co co; clear HB5; have HB5 := Lib.hid h5; clear h4 h5 hb))
            | (go_at_call 46; refine (HFT.out _).mono ?_; rintro e w6 ⟨rfl, hb⟩; have HB6 := Lib.hid (HB5.out.below hb); clear hb; obtain ⟨z0, z1, z2, z3, z4, z5, z6, z7, z8, z9⟩ := HB6.out.b.ten; obtain ⟨q0, q1, q2, q3, q4, q5, q6, q7, q8, q9⟩ := HB6.out.b.tenf))
          obtain ⟨-, n0, n1, n2, n3, n4, n5, n6, n7, n8, n9⟩ := HB6.out.b.ten_set (.string tsh) (.int .i64 tk) (.int .i64 tro) (.int .i64 tco) (.int .i64 tro2) (.int .i64 tco2) (.bool tar) (.bool tac) (.bool tar2) (.bool tac2)
          refine bodyPost_ret (v := .tuple #[.agg #[.string tsh, .int .i64 tk, .int .i64 tro, .int .i64 tco, .int .i64 tro2, .int .i64 tco2, .bool tar, .bool tac, .bool tar2, .bool tac2], .int .i64 0]) (by simp [results, Tryd.results17, go_sem, n0, n1, n2, n3, n4, n5, n6, n7, n8, n9]) rfl ⟨rfl, below_ten HB6.out.bel (by omega) _ _ _ _ _ _ _ _ _ _⟩
      · have HL := Lib.hid (show T = match Ax.Hull l ro ro2 with
          | none => Ref.bad
          | some u => (Ref.rows ⟨sh, 1, ro, co, ro2, co2, ar, ac, ar2, ac2⟩ u.1 u.2).fitting from HT.out)
        obtain ⟨p0, p1, p2, p3, p4, p5, p6, p7, p8, p9⟩ := HB.out.a.tenf
        cases hH : Ax.Hull l ro ro2 with
        | none =>
          have hT : T = Ref.bad := by rw [HL.out, hH]
          subst hT
          have HR := Lib.hid (show ∀ W, Below w.heap.size w W → Calls Tryd.prog 45 #[.slice A l.length c, .int .i64 ro, .int .i64 ro2] W fun e w' => e = .returned (.tuple #[.int .i64 0, .int .i64 0, .bool false]) ∧ Below W.heap.size W w' from fun W hW => by
            have := HH.out W ro ro2 hW (by omega) (by omega)
            rw [hH] at this
            exact this)
          clear hH
          go_wp2_with (go_at_call 45; refine (HR.out _ HB.out.bel).mono ?_; rintro e w4 ⟨rfl, hb⟩; have h4 := HB.out.below hb; clear c0 c1 c2 c3 c4 c5 c6 c7 c8 c9 p0 p1 p2 p3 p4 p5 p6 p7 p8 p9; obtain ⟨c0, c1, c2, c3, c4, c5, c6, c7, c8, c9⟩ := h4.a.ten; obtain ⟨p0, p1, p2, p3, p4, p5, p6, p7, p8, p9⟩ := h4.a.tenf; have HB5 := Lib.hid (h4.set24 0 0); clear h4 hb; obtain ⟨z0, z1, z2, z3, z4, z5, z6, z7, z8, z9⟩ := HB5.out.b.ten; obtain ⟨q0, q1, q2, q3, q4, q5, q6, q7, q8, q9⟩ := HB5.out.b.tenf)
          obtain ⟨-, n0, n1, n2, n3, n4, n5, n6, n7, n8, n9⟩ := HB5.out.b.ten_set (.string ⟨#[]⟩) (.int .i64 4) (.int .i64 0) (.int .i64 0) (.int .i64 0) (.int .i64 0) (.bool false) (.bool false) (.bool false) (.bool false)
          refine bodyPost_ret (v := .tuple #[.agg #[.string ⟨#[]⟩, .int .i64 4, .int .i64 0, .int .i64 0, .int .i64 0, .int .i64 0, .bool false, .bool false, .bool false, .bool false], .int .i64 0]) (by simp [results, Tryd.results17, go_sem, n0, n1, n2, n3, n4, n5, n6, n7, n8, n9]) rfl ⟨rfl, below_ten HB5.out.bel (by omega) _ _ _ _ _ _ _ _ _ _⟩
        | some u =>
          obtain ⟨f, g⟩ := u
          have hT : T = (Ref.rows ⟨sh, 1, ro, co, ro2, co2, ar, ac, ar2, ac2⟩ f g).fitting := by rw [HL.out, hH]
          have HR := Lib.hid (show ∀ W, Below w.heap.size w W → Calls Tryd.prog 45 #[.slice A l.length c, .int .i64 ro, .int .i64 ro2] W fun e w' => e = .returned (.tuple #[.int .i64 f, .int .i64 g, .bool true]) ∧ Below W.heap.size W w' from fun W hW => by
            have := HH.out W ro ro2 hW (by omega) (by omega)
            rw [hH] at this
            exact this)
          have HFT := Lib.hid (show ∀ W, Calls Tryd.prog 46 #[.agg #[.string sh, .int .i64 1, .int .i64 f, .int .i64 co, .int .i64 g, .int .i64 co2, .bool ar, .bool ac, .bool ar2, .bool ac2]] W fun e w' => e = .returned T.v ∧ Below W.heap.size W w' from fun W => by rw [hT]; exact HF.out _ W)
          clear hH hT HL HT
          have hcc : co ≤ co2 := by omega
          obtain ⟨tsh, tk, tro, tco, tro2, tco2, tar, tac, tar2, tac2⟩ := T
          go_wp2_with (first
            | (go_at_call 45; first | ((with_reducible refine (HR.out _ HB.out.bel).mono ?_); rintro e w4 ⟨rfl, hb⟩; have h4 := HB.out.below hb; clear c0 c1 c2 c3 c4 c5 c6 c7 c8 c9 p0 p1 p2 p3 p4 p5 p6 p7 p8 p9; obtain ⟨c0, c1, c2, c3, c4, c5, c6, c7, c8, c9⟩ := h4.a.ten; obtain ⟨p0, p1, p2, p3, p4, p5, p6, p7, p8, p9⟩ := h4.a.tenf; have HB5 := Lib.hid (h4.set24 f g); clear h4 hb) | ((with_reducible refine (HN.out _ _ _ (by omega) hcc (by omega)).mono ?_); rintro e w5 ⟨rfl, hb⟩; have h4 := HB5.out.below hb; clear c0 c1 c2 c3 c4 c5 c6 c7 c8 c9 p0 p1 p2 p3 p4 p5 p6 p7 p8 p9; obtain ⟨c0, c1, c2, c3, c4, c5, c6, c7, c8, c9⟩ := h4.a.ten; obtain ⟨p0, p1, p2, p3, p4, p5, p6, p7, p8, p9⟩ := h4.a.tenf; have h5 := h4.set35 co co2; clear HB5; have HB5 := Lib.hid h5; clear h4 h5 hb))
            | (go_at_call 46; refine (HFT.out _).mono ?_; rintro e w6 ⟨rfl, hb⟩; have HB6 := Lib.hid (HB5.out.below hb); clear hb; obtain ⟨z0, z1, z2, z3, z4, z5, z6, z7, z8, z9⟩ := HB6.out.b.ten; obtain ⟨q0, q1, q2, q3, q4, q5, q6, q7, q8, q9⟩ := HB6.out.b.tenf))
          obtain ⟨-, n0, n1, n2, n3, n4, n5, n6, n7, n8, n9⟩ := HB6.out.b.ten_set (.string tsh) (.int .i64 tk) (.int .i64 tro) (.int .i64 tco) (.int .i64 tro2) (.int .i64 tco2) (.bool tar) (.bool tac) (.bool tar2) (.bool tac2)
          refine bodyPost_ret (v := .tuple #[.agg #[.string tsh, .int .i64 tk, .int .i64 tro, .int .i64 tco, .int .i64 tro2, .int .i64 tco2, .bool tar, .bool tac, .bool tar2, .bool tac2], .int .i64 0]) (by simp [results, Tryd.results17, go_sem, n0, n1, n2, n3, n4, n5, n6, n7, n8, n9]) rfl ⟨rfl, below_ten HB6.out.bel (by omega) _ _ _ _ _ _ _ _ _ _⟩
      · have HL := Lib.hid (show T = match Ax.Hull l ro ro2 with
          | none => Ref.bad
          | some u => (Ref.rows ⟨sh, 2, ro, co, ro2, co2, ar, ac, ar2, ac2⟩ u.1 u.2).fitting from HT.out)
        obtain ⟨p0, p1, p2, p3, p4, p5, p6, p7, p8, p9⟩ := HB.out.a.tenf
        cases hH : Ax.Hull l ro ro2 with
        | none =>
          have hT : T = Ref.bad := by rw [HL.out, hH]
          subst hT
          have HR := Lib.hid (show ∀ W, Below w.heap.size w W → Calls Tryd.prog 45 #[.slice A l.length c, .int .i64 ro, .int .i64 ro2] W fun e w' => e = .returned (.tuple #[.int .i64 0, .int .i64 0, .bool false]) ∧ Below W.heap.size W w' from fun W hW => by
            have := HH.out W ro ro2 hW (by omega) (by omega)
            rw [hH] at this
            exact this)
          clear hH
          go_wp2_with (go_at_call 45; refine (HR.out _ HB.out.bel).mono ?_; rintro e w4 ⟨rfl, hb⟩; have h4 := HB.out.below hb; clear c0 c1 c2 c3 c4 c5 c6 c7 c8 c9 p0 p1 p2 p3 p4 p5 p6 p7 p8 p9; obtain ⟨c0, c1, c2, c3, c4, c5, c6, c7, c8, c9⟩ := h4.a.ten; obtain ⟨p0, p1, p2, p3, p4, p5, p6, p7, p8, p9⟩ := h4.a.tenf; have HB5 := Lib.hid (h4.set24 0 0); clear h4 hb; obtain ⟨z0, z1, z2, z3, z4, z5, z6, z7, z8, z9⟩ := HB5.out.b.ten; obtain ⟨q0, q1, q2, q3, q4, q5, q6, q7, q8, q9⟩ := HB5.out.b.tenf)
          obtain ⟨-, n0, n1, n2, n3, n4, n5, n6, n7, n8, n9⟩ := HB5.out.b.ten_set (.string ⟨#[]⟩) (.int .i64 4) (.int .i64 0) (.int .i64 0) (.int .i64 0) (.int .i64 0) (.bool false) (.bool false) (.bool false) (.bool false)
          refine bodyPost_ret (v := .tuple #[.agg #[.string ⟨#[]⟩, .int .i64 4, .int .i64 0, .int .i64 0, .int .i64 0, .int .i64 0, .bool false, .bool false, .bool false, .bool false], .int .i64 0]) (by simp [results, Tryd.results17, go_sem, n0, n1, n2, n3, n4, n5, n6, n7, n8, n9]) rfl ⟨rfl, below_ten HB5.out.bel (by omega) _ _ _ _ _ _ _ _ _ _⟩
        | some u =>
          obtain ⟨f, g⟩ := u
          have hT : T = (Ref.rows ⟨sh, 2, ro, co, ro2, co2, ar, ac, ar2, ac2⟩ f g).fitting := by rw [HL.out, hH]
          have HR := Lib.hid (show ∀ W, Below w.heap.size w W → Calls Tryd.prog 45 #[.slice A l.length c, .int .i64 ro, .int .i64 ro2] W fun e w' => e = .returned (.tuple #[.int .i64 f, .int .i64 g, .bool true]) ∧ Below W.heap.size W w' from fun W hW => by
            have := HH.out W ro ro2 hW (by omega) (by omega)
            rw [hH] at this
            exact this)
          have HFT := Lib.hid (show ∀ W, Calls Tryd.prog 46 #[.agg #[.string sh, .int .i64 2, .int .i64 f, .int .i64 co, .int .i64 g, .int .i64 co2, .bool ar, .bool ac, .bool ar2, .bool ac2]] W fun e w' => e = .returned T.v ∧ Below W.heap.size W w' from fun W => by rw [hT]; exact HF.out _ W)
          clear hH hT HL HT
          have hcc : co ≤ co2 := by omega
          obtain ⟨tsh, tk, tro, tco, tro2, tco2, tar, tac, tar2, tac2⟩ := T
          go_wp2_with (first
            | (go_at_call 45; first | ((with_reducible refine (HR.out _ HB.out.bel).mono ?_); rintro e w4 ⟨rfl, hb⟩; have h4 := HB.out.below hb; clear c0 c1 c2 c3 c4 c5 c6 c7 c8 c9 p0 p1 p2 p3 p4 p5 p6 p7 p8 p9; obtain ⟨c0, c1, c2, c3, c4, c5, c6, c7, c8, c9⟩ := h4.a.ten; obtain ⟨p0, p1, p2, p3, p4, p5, p6, p7, p8, p9⟩ := h4.a.tenf; have HB5 := Lib.hid (h4.set24 f g); clear h4 hb) | ((with_reducible refine (HN.out _ _ _ (by omega) hcc (by omega)).mono ?_); rintro e w5 ⟨rfl, hb⟩; have h4 := HB5.out.below hb; clear c0 c1 c2 c3 c4 c5 c6 c7 c8 c9 p0 p1 p2 p3 p4 p5 p6 p7 p8 p9; obtain ⟨c0, c1, c2, c3, c4, c5, c6, c7, c8, c9⟩ := h4.a.ten; obtain ⟨p0, p1, p2, p3, p4, p5, p6, p7, p8, p9⟩ := h4.a.tenf; have h5 := h4.set35 co co2; clear HB5; have HB5 := Lib.hid h5; clear h4 h5 hb))
            | (go_at_call 46; refine (HFT.out _).mono ?_; rintro e w6 ⟨rfl, hb⟩; have HB6 := Lib.hid (HB5.out.below hb); clear hb; obtain ⟨z0, z1, z2, z3, z4, z5, z6, z7, z8, z9⟩ := HB6.out.b.ten; obtain ⟨q0, q1, q2, q3, q4, q5, q6, q7, q8, q9⟩ := HB6.out.b.tenf))
          obtain ⟨-, n0, n1, n2, n3, n4, n5, n6, n7, n8, n9⟩ := HB6.out.b.ten_set (.string tsh) (.int .i64 tk) (.int .i64 tro) (.int .i64 tco) (.int .i64 tro2) (.int .i64 tco2) (.bool tar) (.bool tac) (.bool tar2) (.bool tac2)
          refine bodyPost_ret (v := .tuple #[.agg #[.string tsh, .int .i64 tk, .int .i64 tro, .int .i64 tco, .int .i64 tro2, .int .i64 tco2, .bool tar, .bool tac, .bool tar2, .bool tac2], .int .i64 0]) (by simp [results, Tryd.results17, go_sem, n0, n1, n2, n3, n4, n5, n6, n7, n8, n9]) rfl ⟨rfl, below_ten HB6.out.bel (by omega) _ _ _ _ _ _ _ _ _ _⟩
end Go.Proofs.YtjgojbkmeggmhaaDoor
