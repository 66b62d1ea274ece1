/- The contract of exact's Parse, where a decimal point with digits behind it is there and no exponent. -/
import Derived.Test.YtigeipjkcidleaaGreatDoorExP
namespace Go.Proofs.YtigeipjkcidleaaGreatDoor
open Go.RowKit

theorem Nv.apart1 {W : World} {v : Value} {l : List Nat} (h : Nv W v l) {z i : Nat} {t : TypeId} {b : Bool} {A A' : Option Addr} {n n' c c' : Nat} (hz : Blk W z t #[.bool b, .slice A n c, .slice A' n' c']) (y : Value) : Nv (W.setCell ⟨z, i, none⟩ y) v l := by
  obtain ⟨A, c, rfl, h1, h2, h0, h3⟩ := h.ex
  refine ⟨A, c, rfl, h1, h2, h0, fun hl => ?_⟩
  obtain ⟨g, o, rfl, h4, h5⟩ := h3 hl
  have hne : g ≠ z := by
    rintro rfl
    have e1 := h5 0 hl
    rw [Nat.add_zero, hz.cell] at e1
    match o, e1 with
    | 0, e1 => simp at e1
    | 1, e1 => simp at e1
    | 2, e1 => simp at e1
    | o + 3, e1 => simp at e1
  refine ⟨g, o, rfl, by simpa [World.setCell] using h4, fun i hi => ?_⟩
  rw [World.cell?_setCell_other _ _ _ _ (fun e => by have := congrArg Addr.block e; simp only at this; omega)]
  exact h5 i hi
theorem parse_o (s : ByteArray) (l : List UInt8) (w : World) (hs : s.data.toList = l) (h : Nt.allD l) (hl : l.length ≤ 800000) :
    Calls Tryz.prog 138 #[.string s] w fun e w' => ∃ A c, e = .returned (.slice A (Nt.digs (Nt.dval l)).length c) ∧ Nv w' (.slice A (Nt.digs (Nt.dval l)).length c) (Nt.digs (Nt.dval l)) ∧ Below w.heap.size w w' := by
  refine (parse_any s l w hs h hl).mono ?_
  rintro e w' ⟨v, rfl, hv, hb⟩
  obtain ⟨A, c, rfl, _⟩ := hv.ex
  exact ⟨A, c, rfl, hv, hb⟩
theorem ba_len (s : ByteArray) : s.data.toList.length = s.size := rfl
theorem emp_false {a : ByteArray} (h : a.data.toList ≠ []) : a.toList.isEmpty = false := by
  rw [Lib.toList_data]
  cases hx : a.data.toList with
  | nil => exact absurd hx h
  | cons x l => rfl

set_option maxRecDepth 100000 in
set_option maxHeartbeats 2000000 in
theorem parse_frac (s r a t p : ByteArray) (m : Bool) (w : World) (hs : s.data.toList = Nt.sgn m ++ r.data.toList) (hr : r.data.toList = a.data.toList ++ t.data.toList) (ht : t.data.toList = 46 :: p.data.toList)
    (ha : Nt.allD a.data.toList) (ha0 : a.data.toList ≠ []) (hp : Nt.allD p.data.toList) (hp0 : p.data.toList ≠ []) (hl : s.size ≤ 1000)
    (hfit : Fits (Nt.dval (a.data.toList ++ p.data.toList)) (10 ^ p.size)) (htab : Lib.TabIs Tryz.prog w "internal/strconv.uint64pow10" .u64 Lib.pow10Tab) :
    Calls Tryz.prog 250 #[.string s] w (WriteRet m (Nt.dval (a.data.toList ++ p.data.toList)) (10 ^ p.size) w) := by
  have hsz : s.size = (Nt.sgn m).length + (a.size + (1 + p.size)) := by
    rw [← ba_len, hs, hr, ht]
    simp only [List.length_append, List.length_cons, ba_len]
    omega
  have hrs : r.size = a.size + (1 + p.size) := by
    rw [← ba_len, hr, ht]
    simp only [List.length_append, List.length_cons, ba_len]
    omega
  have hp1 : 1 ≤ p.size := by
    have : p.data.toList.length ≠ 0 := fun e => hp0 (List.eq_nil_of_length_eq_zero e)
    rw [ba_len] at this; omega
  have head : r.data.toList.head? ≠ some 45 := by
    rw [hr]
    cases hx : a.data.toList with
    | nil => exact absurd hx ha0
    | cons c l =>
      have hc := ha c (by rw [hx]; simp)
      simp only [List.cons_append, List.head?_cons, ne_eq, Option.some.injEq]
      rintro rfl
      exact absurd hc.1 (by decide)
  have HC1 := Lib.hid (show ∀ W, Calls Tryz.prog 137 #[.string s, .string ⟨#[45]⟩] W fun e w' => e = .returned (.tuple #[.string r, .bool m]) ∧ W = w' from fun W => by
    have h := Tryz.strings_CutPrefix s ⟨#[45]⟩ W
    rw [show (⟨#[45]⟩ : ByteArray).data.toList = [45] from rfl, hs, (Nt.pre_sgn' m _ head).1, (Nt.pre_sgn' m _ head).2, show (⟨r.data.toList.toArray⟩ : ByteArray) = r from ba_ext (by simp)] at h
    exact h.mono fun e w' ⟨h1, h2⟩ => ⟨h1, h2.symm⟩)
  have HC2 := Lib.hid (show ∀ W, Calls Tryz.prog 137 #[.string t, .string ⟨#[46]⟩] W fun e w' => e = .returned (.tuple #[.string p, .bool true]) ∧ W = w' from fun W => by
    have h := Tryz.strings_CutPrefix t ⟨#[46]⟩ W
    have e1 : Lib.hasPrefix (46 :: p.data.toList) [46] = true := by simp [Lib.hasPrefix]
    have e2 : Lib.trimPrefix (46 :: p.data.toList) [46] = p.data.toList := by rw [Lib.trimPrefix, if_pos e1]; rfl
    rw [show (⟨#[46]⟩ : ByteArray).data.toList = [46] from rfl, ht, e1, e2, show (⟨p.data.toList.toArray⟩ : ByteArray) = p from ba_ext (by simp)] at h
    exact h.mono fun e w' ⟨h1, h2⟩ => ⟨h1, h2.symm⟩)
  have HU1 := Lib.hid fun W => run_any r a t W hr ha (by rw [ht]; intro c l e; injection e with e1 e2; subst e1; rintro ⟨h1, h2⟩; exact absurd h1 (by decide)) (by omega)
  have HU2 := Lib.hid fun W => run_any p p ⟨#[]⟩ W (by simp) hp (fun c l e => by cases e) (by omega)
  have HPA := Lib.hid fun W => parse_o (a ++ p) (a.data.toList ++ p.data.toList) W (by rw [ByteArray.toList_data_append]) (fun c hc => (List.mem_append.1 hc).elim (ha c) (hp c)) (by rw [List.length_append, ba_len, ba_len]; omega)
  have HTE := Lib.hid fun W => ten_any p.size W (by omega)
  have HF := Lib.hid hfit
  have HT := Lib.hid (show ∀ W, Below w.heap.size w W → Lib.TabIs Tryz.prog W "internal/strconv.uint64pow10" .u64 Lib.pow10Tab from Lib.tabBelow_of_tabIs htab)
  have ea := emp_false ha0
  have ep := emp_false hp0
  have l1 : (a.size : Int) + p.size ≤ 1000 := by omega
  have HD := Lib.hid (show 10 ^ p.size ≠ 0 from Nat.ne_of_gt (Nat.pow_pos (by decide)))
  obtain ⟨N, hN⟩ : ∃ N, N = Nt.dval (a.data.toList ++ p.data.toList) := ⟨_, rfl⟩
  obtain ⟨D, hD⟩ : ∃ D, D = 10 ^ p.size := ⟨_, rfl⟩
  rw [← hN] at HPA HF ⊢
  rw [← hD] at HTE HF HD ⊢
  have hl' : (s.size : Int) ≤ 1000 := by omega
  clear hs hr ht ha ha0 hp hp0 hl hfit htab head hsz hrs hN hD
  have HL0 := Lib.hid ((Loc.start w).alloc' rfl 24 #[.string ⟨#[]⟩, .string ⟨#[]⟩])
  go_enter Tryz.func250, Tryz.ntmps250
  go_wp2_with (first
    | (go_at_call 137; first | ((with_reducible refine (HC1.out _).mono ?_); rintro e w1 ⟨rfl, rfl⟩) | ((with_reducible refine (HC2.out _).mono ?_); rintro e w1 ⟨rfl, rfl⟩))
    | (go_at_call 269; first | ((with_reducible refine (HU1.out _).mono ?_); rintro e w2 ⟨rfl, hb⟩; have HL2 := Lib.hid (HL0.out.step hb); clear hb) | ((with_reducible refine (HU2.out _).mono ?_); rintro e w3 ⟨rfl, hb⟩; have HL3 := Lib.hid (HL2.out.step hb); clear hb))
    | (go_at_call 270; (with_reducible refine (exponent_none _).mono ?_); rintro e w4 ⟨rfl, rfl⟩)
    | (go_at_call 138; (with_reducible refine (HPA.out _).mono ?_); rintro e w5 ⟨A1, c1, rfl, hv, hb⟩; have LE5 := Lib.hid (HL3.out.step hb).bel.size; have HL5 := Lib.hid (((HL3.out.step hb).alloc 193 #[.int .u32 1]).alloc' (g := w5.heap.size + 1) (by simp) 107 #[.bool m, .slice A1 (Nt.digs N).length c1, .slice (some ⟨w5.heap.size, 0, none⟩) 1 1]); have HV := Lib.hid hv; clear hv hb)
    | (go_at_call 204; (with_reducible refine (HTE.out _).mono ?_); rintro e w6 ⟨A2, c2, rfl, hv, hb⟩; have hl6 := HL5.out.step hb; have HL6 := Lib.hid hl6; have HB6 := Lib.hid hb; have bz := hl6.blk (g := w5.heap.size + 1) (t := 107) (cs := #[.bool m, .slice A1 (Nt.digs N).length c1, .slice (some ⟨w5.heap.size, 0, none⟩) 1 1]) (by simp); have HV2 := Lib.hid (hv.apart1 (i := 2) bz (.slice A2 (Nt.digs D).length c2)); have HV1 := Lib.hid ((((HV.out.below ((Below.refl _ w5).alloc (Nat.le_refl _) (.cells #[.int .u32 1] 193))).below ((Below.refl _ _).alloc (Nat.le_refl _) (.cells #[.bool m, .slice A1 (Nt.digs N).length c1, .slice (some ⟨w5.heap.size, 0, none⟩) 1 1] 107))).below hb).apart1 (i := 2) bz (.slice A2 (Nt.digs D).length c2)); have HLS := Lib.hid (hl6.set1 (i := 2) (by intro x hx; have := LE5.out; simp at hx; rcases hx with rfl | rfl <;> simp <;> omega) (.slice A2 (Nt.digs D).length c2)); clear bz; obtain ⟨z0, z1, z2, g0, g1, g2⟩ := (hl6.blk (g := w5.heap.size + 1) (t := 107) (cs := #[.bool m, .slice A1 (Nt.digs N).length c1, .slice (some ⟨w5.heap.size, 0, none⟩) 1 1]) (by simp)).three; clear hl6 hb hv)
    | (go_at_call 76; (with_reducible refine (write_any _ m N D _ ⟨_, _, rfl, HV1.out, HV2.out⟩ HD.out HF.out.s1 HF.out.s2 HF.out.f1 HF.out.f2 (HT.out _ HLS.out.bel)).mono ?_); rintro e w7 ⟨hb, sn, sd, rfl, e1, e2⟩; have hl := HLS.out.step hb; have HL7 := Lib.hid hl; have bl := hl.blk (g := w.heap.size) (t := 24) (cs := #[.string ⟨#[]⟩, .string ⟨#[]⟩]) (by simp); have HBL := Lib.hid bl; obtain ⟨x0, x1, f0, f1⟩ := bl.two; have E1 := Lib.hid e1; have E2 := Lib.hid e2; clear hl bl hb e1 e2))
  obtain ⟨-, q0, q1⟩ := HBL.out.two_set (.string sn) (.string sd)
  refine bodyPost_ret (v := .tuple #[.agg #[.string sn, .string sd], .int .i64 0]) (by simp [results, Tryz.results250, go_sem, q0, q1]) rfl ?_
  exact ⟨below_two HL7.out.bel (by omega) _ _, sn, sd, rfl, E1.out, E2.out⟩
end Go.Proofs.YtigeipjkcidleaaGreatDoor
