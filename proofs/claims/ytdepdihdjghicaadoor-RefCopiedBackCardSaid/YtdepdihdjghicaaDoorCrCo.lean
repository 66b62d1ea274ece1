/- The contract of cellref.Copied. -/
import Derived.Test.YtdepdihdjghicaaDoorCrZ
import Derived.Handy
namespace Go.Proofs.YtdepdihdjghicaaDoor
open Go.RowKit

def Ref.moved (r : Ref) (d t : Int) : Ref :=
  { r with row := if r.ar then r.row else r.row + d, row2 := if r.ar2 then r.row2 else r.row2 + d, col := if r.ac then r.col else r.col + t, col2 := if r.ac2 then r.col2 else r.col2 + t }
def Ref.copied (r : Ref) (d t : Int) : Ref := (r.moved d t).meaning.ordered.fitting

/-- What is known of the memory of Copied behind j rounds. -/
structure CopAt (w : World) (s : Nat) (sh : ByteArray) (k ro co ro2 co2 : Int) (ar ac ar2 ac2 : Bool) (d t ro1 co1 ro21 co21 : Int) (j : Nat) (wr : World) : Prop where
  box : Blk wr w.heap.size 37 #[.string sh, .int .i64 k, .int .i64 (if 1 ≤ j then ro1 else ro), .int .i64 (if 3 ≤ j then co1 else co), .int .i64 (if 2 ≤ j then ro21 else ro2), .int .i64 (if 4 ≤ j then co21 else co2), .bool ar, .bool ac, .bool ar2, .bool ac2]
  res : Blk wr (w.heap.size + 1) 37 #[.string ⟨#[]⟩, .int .i64 0, .int .i64 0, .int .i64 0, .int .i64 0, .int .i64 0, .bool false, .bool false, .bool false, .bool false]
  lit : Blk wr s 63 #[.pointer (some ⟨w.heap.size, 2, none⟩), .bool ar, .int .i64 d, .pointer (some ⟨w.heap.size, 4, none⟩), .bool ar2, .int .i64 d, .pointer (some ⟨w.heap.size, 3, none⟩), .bool ac, .int .i64 t, .pointer (some ⟨w.heap.size, 5, none⟩), .bool ac2, .int .i64 t]
  below : Below w.heap.size w wr

set_option maxRecDepth 100000 in
set_option maxHeartbeats 4000000 in
theorem copied_ok (r : Ref) (d t : Int) (w : World) (h : r.check = 0) (hd : -1073741824 ≤ d ∧ d ≤ 1073741824) (ht : -1073741824 ≤ t ∧ t ≤ 1073741824) :
    Calls Tryd.prog 15 #[r.v, .int .i64 d, .int .i64 t] w fun e w' => e = .returned (.tuple #[(r.copied d t).v, .int .i64 0]) ∧ Below w.heap.size w w' := by
  obtain ⟨hk0, hk4, hn, hmm, hro, hco, hro2, hco2, hord⟩ := Ref.check_ok h
  clear hmm hord
  have hlen := Cr.nameE_len hn
  have hC := fun W => check_any r W (by unfold maxLen; simp at hlen; omega)
  rw [h] at hC
  have fd : Cr.far d = false := by simp [Cr.far]; omega
  have ft : Cr.far t = false := by simp [Cr.far]; omega
  have hM := fun W => meaning_any (r.moved d t) W
  have hO := fun W => ordered_any (r.moved d t).meaning W
  have hF := fun W => fitting_any (r.moved d t).meaning.ordered W
  rw [show (r.moved d t).meaning.ordered.fitting = r.copied d t from rfl] at hF
  generalize r.copied d t = F at *
  obtain ⟨sh, k, ro, co, ro2, co2, ar, ac, ar2, ac2⟩ := r
  dsimp only [Ref.moved] at *
  obtain ⟨ro1, e1⟩ : ∃ x, x = if ar = true then ro else ro + d := ⟨_, rfl⟩
  obtain ⟨ro21, e2⟩ : ∃ x, x = if ar2 = true then ro2 else ro2 + d := ⟨_, rfl⟩
  obtain ⟨co1, e3⟩ : ∃ x, x = if ac = true then co else co + t := ⟨_, rfl⟩
  obtain ⟨co21, e4⟩ : ∃ x, x = if ac2 = true then co2 else co2 + t := ⟨_, rfl⟩
  rw [← e1, ← e2, ← e3, ← e4] at hM hO hF
  generalize Ref.meaning ⟨sh, k, ro1, co1, ro21, co21, ar, ac, ar2, ac2⟩ = M at *
  generalize Ref.ordered M = O at *
  obtain ⟨sh', k', ro', co', ro2', co2', ar', ac', ar2', ac2'⟩ := M
  obtain ⟨sh'', k'', ro'', co'', ro2'', co2'', ar'', ac'', ar2'', ac2''⟩ := O
  obtain ⟨fsh, fk, fro, fco, fro2, fco2, far, fac, far2, fac2⟩ := F
  have HM := Lib.hid hM
  have HO := Lib.hid hO
  have HF := Lib.hid hF
  have HC := Lib.hid hC
  have E1 := Lib.hid e1
  have E2 := Lib.hid e2
  have E3 := Lib.hid e3
  have E4 := Lib.hid e4
  clear hM hO hF hC h hn hlen e1 e2 e3 e4
  go_enter Tryd.func15, Tryd.ntmps15
  go_wp2_with (first | (go_at_call 14; refine (HC.out _).mono ?_; rintro e w1 ⟨rfl, hw⟩; have hB1 := Below.trans (((Below.refl _ w).alloc (Nat.le_refl _) _).alloc (by simp) _) (hw.mono (by simp; omega)); have hR1 := (Blk.alloc (Blk.new w 37 #[.string sh, .int .i64 k, .int .i64 ro, .int .i64 co, .int .i64 ro2, .int .i64 co2, .bool ar, .bool ac, .bool ar2, .bool ac2]) (.cells #[.string ⟨#[]⟩, .int .i64 0, .int .i64 0, .int .i64 0, .int .i64 0, .int .i64 0, .bool false, .bool false, .bool false, .bool false] 37)).later hw; have hZ1 := (Blk.new (w.alloc (.cells #[.string sh, .int .i64 k, .int .i64 ro, .int .i64 co, .int .i64 ro2, .int .i64 co2, .bool ar, .bool ac, .bool ar2, .bool ac2] 37)) 37 #[.string ⟨#[]⟩, .int .i64 0, .int .i64 0, .int .i64 0, .int .i64 0, .int .i64 0, .bool false, .bool false, .bool false, .bool false]).later hw; clear hw; obtain ⟨c0, c1, c2, c3, c4, c5, c6, c7, c8, c9⟩ := hR1.ten) | (go_at_call 31; refine (far_any _ _).mono ?_; rintro e w2 ⟨rfl, rfl⟩))
  rw [show (w.alloc (.cells #[.string sh, .int .i64 k, .int .i64 ro, .int .i64 co, .int .i64 ro2, .int .i64 co2, .bool ar, .bool ac, .bool ar2, .bool ac2] 37)).heap.size = w.heap.size + 1 from by simp] at hZ1
  have hs1 : w.heap.size + 1 < w1.heap.size := hZ1.lt
  clear c0 c1 c2 c3 c4 c5 c6 c7 c8 c9
  go_loopw [46] (fun i wr => ∃ j : Nat, j ≤ 4 ∧ i = .int .i64 j ∧ CopAt w w1.heap.size sh k ro co ro2 co2 ar ac ar2 ac2 d t ro1 co1 ro21 co21 j wr) (fun i _ => 4 - (intOf i).toNat)
  case atStart =>
    exact ⟨0, by omega, rfl, by simpa using hR1.alloc _, hZ1.alloc _, Blk.new _ _ _, hB1.alloc (by omega) _⟩
  case round =>
    obtain ⟨j, hj, rfl, hbox, hres, hlit, hbel⟩ := hrel
    have hbz := hbel.size
    have hbl := hlit.lt
    have HRES := Lib.hid hres
    have HLIT := Lib.hid hlit
    have HBEL := Lib.hid hbel
    clear hR1 hZ1 hB1 hres hbel
    match j, hj with
    | 0, _ =>
      simp at hbox
      have l0 := hlit.cell 0
      have l1 := hlit.cell 1
      have l2 := hlit.cell 2
      cases ar
      · have ev : ro1 = _ := E1.out
        simp only [Bool.false_eq_true, if_false] at ev
        subst ev
        have bx := hbox.alloc (.cells #[.pointer (some ⟨w.heap.size, 2, none⟩), .bool false, .int .i64 d] 63)
        have a0 := bx.cell 2
        have a1 := bx.frozen 2
        simp at a0
        clear hbox hlit HF HM HO
        go_wp2_with fail
        go_region
        go_wp2_with fail
        go_roundw
        case rel => exact ⟨1, by omega, by go_num, by simpa using (bx.set_ 2 _).drew, ((HRES.out.alloc _).far (by simp) _).drew, ((HLIT.out.alloc _).far (by simp; omega) _).drew, ((HBEL.out.alloc (by omega) _).setCell (by simp) _).drew⟩
        case measure => simp [intOf]
      · have ev : ro1 = _ := E1.out
        simp only [if_true] at ev
        subst ev
        have bx := hbox.alloc (.cells #[.pointer (some ⟨w.heap.size, 2, none⟩), .bool true, .int .i64 d] 63)
        clear hbox hlit HF HM HO
        go_wp2_with fail
        go_roundw
        case rel => exact ⟨1, by omega, by go_num, by simpa using bx, HRES.out.alloc _, HLIT.out.alloc _, HBEL.out.alloc (by omega) _⟩
        case measure => simp [intOf]
    | 1, _ =>
      simp at hbox
      have l0 := hlit.cell 3
      have l1 := hlit.cell 4
      have l2 := hlit.cell 5
      cases ar2
      · have ev : ro21 = _ := E2.out
        simp only [Bool.false_eq_true, if_false] at ev
        subst ev
        have bx := hbox.alloc (.cells #[.pointer (some ⟨w.heap.size, 4, none⟩), .bool false, .int .i64 d] 63)
        have a0 := bx.cell 4
        have a1 := bx.frozen 4
        simp at a0
        clear hbox hlit HF HM HO
        go_wp2_with fail
        go_region
        go_wp2_with fail
        go_roundw
        case rel => exact ⟨2, by omega, by go_num, by simpa using (bx.set_ 4 _).drew, ((HRES.out.alloc _).far (by simp) _).drew, ((HLIT.out.alloc _).far (by simp; omega) _).drew, ((HBEL.out.alloc (by omega) _).setCell (by simp) _).drew⟩
        case measure => simp [intOf]
      · have ev : ro21 = _ := E2.out
        simp only [if_true] at ev
        subst ev
        have bx := hbox.alloc (.cells #[.pointer (some ⟨w.heap.size, 4, none⟩), .bool true, .int .i64 d] 63)
        clear hbox hlit HF HM HO
        go_wp2_with fail
        go_roundw
        case rel => exact ⟨2, by omega, by go_num, by simpa using bx, HRES.out.alloc _, HLIT.out.alloc _, HBEL.out.alloc (by omega) _⟩
        case measure => simp [intOf]
    | 2, _ =>
      simp at hbox
      have l0 := hlit.cell 6
      have l1 := hlit.cell 7
      have l2 := hlit.cell 8
      cases ac
      · have ev : co1 = _ := E3.out
        simp only [Bool.false_eq_true, if_false] at ev
        subst ev
        have bx := hbox.alloc (.cells #[.pointer (some ⟨w.heap.size, 3, none⟩), .bool false, .int .i64 t] 63)
        have a0 := bx.cell 3
        have a1 := bx.frozen 3
        simp at a0
        clear hbox hlit HF HM HO
        go_wp2_with fail
        go_region
        go_wp2_with fail
        go_roundw
        case rel => exact ⟨3, by omega, by go_num, by simpa using (bx.set_ 3 _).drew, ((HRES.out.alloc _).far (by simp) _).drew, ((HLIT.out.alloc _).far (by simp; omega) _).drew, ((HBEL.out.alloc (by omega) _).setCell (by simp) _).drew⟩
        case measure => simp [intOf]
      · have ev : co1 = _ := E3.out
        simp only [if_true] at ev
        subst ev
        have bx := hbox.alloc (.cells #[.pointer (some ⟨w.heap.size, 3, none⟩), .bool true, .int .i64 t] 63)
        clear hbox hlit HF HM HO
        go_wp2_with fail
        go_roundw
        case rel => exact ⟨3, by omega, by go_num, by simpa using bx, HRES.out.alloc _, HLIT.out.alloc _, HBEL.out.alloc (by omega) _⟩
        case measure => simp [intOf]
    | 3, _ =>
      simp at hbox
      have l0 := hlit.cell 9
      have l1 := hlit.cell 10
      have l2 := hlit.cell 11
      cases ac2
      · have ev : co21 = _ := E4.out
        simp only [Bool.false_eq_true, if_false] at ev
        subst ev
        have bx := hbox.alloc (.cells #[.pointer (some ⟨w.heap.size, 5, none⟩), .bool false, .int .i64 t] 63)
        have a0 := bx.cell 5
        have a1 := bx.frozen 5
        simp at a0
        clear hbox hlit HF HM HO
        go_wp2_with fail
        go_region
        go_wp2_with fail
        go_roundw
        case rel => exact ⟨4, by omega, by go_num, by simpa using (bx.set_ 5 _).drew, ((HRES.out.alloc _).far (by simp) _).drew, ((HLIT.out.alloc _).far (by simp; omega) _).drew, ((HBEL.out.alloc (by omega) _).setCell (by simp) _).drew⟩
        case measure => simp [intOf]
      · have ev : co21 = _ := E4.out
        simp only [if_true] at ev
        subst ev
        have bx := hbox.alloc (.cells #[.pointer (some ⟨w.heap.size, 5, none⟩), .bool true, .int .i64 t] 63)
        clear hbox hlit HF HM HO
        go_wp2_with fail
        go_roundw
        case rel => exact ⟨4, by omega, by go_num, by simpa using bx, HRES.out.alloc _, HLIT.out.alloc _, HBEL.out.alloc (by omega) _⟩
        case measure => simp [intOf]
    | 4, _ =>
      simp at hbox
      obtain ⟨c0, c1, c2, c3, c4, c5, c6, c7, c8, c9⟩ := hbox.ten
      clear hlit HLIT hbox E1 E2 E3 E4
      go_wp2_with (first | (go_at_call 30; refine (HM.out _).mono ?_; rintro e w2 ⟨rfl, rfl⟩) | (go_at_call 33; refine (HO.out _).mono ?_; rintro e w3 ⟨rfl, hw⟩; have hZ3 := ((HRES.out.alloc _).alloc _).later hw; have hB3 := below_tr ((HBEL.out.alloc (by omega) _).alloc (by simp; omega) _) hw; clear hw) | (go_at_call 32; refine (HF.out _).mono ?_; rintro e w4 ⟨rfl, hw⟩; have hZ4 := Blk.later (by assumption) hw; have hB4 := below_tr (by assumption) hw; clear hw; obtain ⟨z0, z1, z2, z3, z4, z5, z6, z7, z8, z9⟩ := hZ4.ten; obtain ⟨q0, q1, q2, q3, q4, q5, q6, q7, q8, q9⟩ := hZ4.tenf))
      obtain ⟨_, n0, n1, n2, n3, n4, n5, n6, n7, n8, n9⟩ := hZ4.ten_set (.string fsh) (.int .i64 fk) (.int .i64 fro) (.int .i64 fco) (.int .i64 fro2) (.int .i64 fco2) (.bool far) (.bool fac) (.bool far2) (.bool fac2)
      refine bodyPost_ret (v := .tuple #[.agg #[.string fsh, .int .i64 fk, .int .i64 fro, .int .i64 fco, .int .i64 fro2, .int .i64 fco2, .bool far, .bool fac, .bool far2, .bool fac2], .int .i64 0]) (by simp [results, Tryd.results15, go_sem, n0, n1, n2, n3, n4, n5, n6, n7, n8, n9]) rfl ⟨rfl, below_ten hB4 (by omega) _ _ _ _ _ _ _ _ _ _⟩
    | n + 5, h => omega
end Go.Proofs.YtdepdihdjghicaaDoor
