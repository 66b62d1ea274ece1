/- axis: Join. -/
import Derived.Test.YtjgojbkmeggmhaaDoorAxF
import Derived.Test.YtjgojbkmeggmhaaDoorAxT
namespace Go.Proofs.YtjgojbkmeggmhaaDoor
open Go.RowKit

section
variable {w0 w : World} {W : Ax.Wr} {va vb : Value} {ua ub : Int} {la lb : List Ax.Step}
theorem Js.kindA (h : Js w0 w W va ua la vb ub lb) (hl : la.length ≤ 10000000000) :
    Calls Tryd.prog 37 #[.pointer (some ⟨w0.heap.size + 1, 0, none⟩)] w fun e w' => e = .returned (.int .i64 (Ax.kd la)) ∧ w = w' :=
  kind_any w _ va ua la h.a (h.sa.below h.bel) (by omega)
theorem Js.kindB (h : Js w0 w W va ua la vb ub lb) (hl : lb.length ≤ 10000000000) :
    Calls Tryd.prog 37 #[.pointer (some ⟨w0.heap.size + 2, 0, none⟩)] w fun e w' => e = .returned (.int .i64 (Ax.kd lb)) ∧ w = w' :=
  kind_any w _ vb ub lb h.b (h.sb.below h.bel) (by omega)
theorem Js.leftA {k n : Int} {t : List Ax.Step} (h : Js w0 w W va ua ((k, n) :: t) vb ub lb) (hl : t.length ≤ 10000000000) :
    Calls Tryd.prog 39 #[.pointer (some ⟨w0.heap.size + 1, 0, none⟩)] w fun e w' => e = .returned (.int .i64 (n - ua)) ∧ Js w0 w' W va ua ((k, n) :: t) vb ub lb := by
  have o := (h.ra.1 (k, n) (List.mem_cons_self ..)).2.2.2
  have o2 := h.ra.2.2 k n t rfl
  dsimp only at o
  refine (left_any w _ va ua k n t h.a (h.sa.below h.bel) (by omega) h.ra.2.1 (by omega) (by omega)).mono ?_
  rintro e w' ⟨rfl, hb⟩
  exact ⟨rfl, h.below hb⟩
theorem Js.leftB {k n : Int} {t : List Ax.Step} (h : Js w0 w W va ua la vb ub ((k, n) :: t)) (hl : t.length ≤ 10000000000) :
    Calls Tryd.prog 39 #[.pointer (some ⟨w0.heap.size + 2, 0, none⟩)] w fun e w' => e = .returned (.int .i64 (n - ub)) ∧ Js w0 w' W va ua la vb ub ((k, n) :: t) := by
  have o := (h.rb.1 (k, n) (List.mem_cons_self ..)).2.2.2
  have o2 := h.rb.2.2 k n t rfl
  dsimp only at o
  refine (left_any w _ vb ub k n t h.b (h.sb.below h.bel) (by omega) h.rb.2.1 (by omega) (by omega)).mono ?_
  rintro e w' ⟨rfl, hb⟩
  exact ⟨rfl, h.below hb⟩
theorem Js.putS {M : Int} (h : Js w0 w W va ua la vb ub lb) (k n : Int) (hl : W.out.length ≤ 100000000000) (hM : Ax.Lim W M) (hMM : M ≤ 100000000000000000) (hn0 : 0 ≤ n) (hn : n ≤ 100000000000000000) :
    Calls Tryd.prog 38 #[.pointer (some ⟨w0.heap.size, 0, none⟩), .int .i64 k, .int .i64 n] w fun e w' => e = .returned (.tuple #[]) ∧ Js w0 w' (W.put k n) va ua la vb ub lb := by
  refine (put_any w _ _ W k n M h.wr hl hM hMM hn0 hn).mono ?_
  rintro e w' ⟨rfl, hw, hb⟩
  exact ⟨rfl, h.put hw hb⟩
theorem Js.takeAS {k n : Int} {t : List Ax.Step} (h : Js w0 w W va ua ((k, n) :: t) vb ub lb) (hl : t.length ≤ 10000000000) (m : Int) (h1 : 1 ≤ m) (h3 : m ≤ n - ua) :
    Calls Tryd.prog 40 #[.pointer (some ⟨w0.heap.size + 1, 0, none⟩), .int .i64 m] w fun e w' => ∃ v' u' l', e = .returned (.tuple #[]) ∧ Js w0 w' W v' u' l' vb ub lb ∧
      Ax.cur l' u' = Ax.dec ((k, n - ua) :: t) m ∧ l'.length ≤ t.length + 1 ∧ (m = n - ua → l' = t ∧ u' = 0) := by
  refine (take_st w0 w _ va ua k n m t h.a h.sa h.bel (by omega) hl h.ra h1 h3).mono ?_
  rintro e w' ⟨v', u', l', rfl, hb, hk, hs, hr, hc, hl', hm⟩
  exact ⟨v', u', l', rfl, h.takeA hb hk hs hr, hc, hl', hm⟩
theorem Js.takeBS {k n : Int} {t : List Ax.Step} (h : Js w0 w W va ua la vb ub ((k, n) :: t)) (hl : t.length ≤ 10000000000) (m : Int) (h1 : 1 ≤ m) (h3 : m ≤ n - ub) :
    Calls Tryd.prog 40 #[.pointer (some ⟨w0.heap.size + 2, 0, none⟩), .int .i64 m] w fun e w' => ∃ v' u' l', e = .returned (.tuple #[]) ∧ Js w0 w' W va ua la v' u' l' ∧
      Ax.cur l' u' = Ax.dec ((k, n - ub) :: t) m ∧ l'.length ≤ t.length + 1 ∧ (m = n - ub → l' = t ∧ u' = 0) := by
  refine (take_st w0 w _ vb ub k n m t h.b h.sb h.bel (by omega) hl h.rb h1 h3).mono ?_
  rintro e w' ⟨v', u', l', rfl, hb, hk, hs, hr, hc, hl', hm⟩
  exact ⟨v', u', l', rfl, h.takeB hb hk hs hr, hc, hl', hm⟩
end

/-- The length of the slice that a cell holds. -/
def slen (w : World) (a : Addr) : Nat := match w.cell? a with
  | some (.slice _ n _) => n
  | _ => 0
theorem Js.lens {w0 w : World} {W : Ax.Wr} {va vb : Value} {ua ub : Int} {la lb : List Ax.Step} (h : Js w0 w W va ua la vb ub lb) : slen w ⟨w0.heap.size + 1, 0, none⟩ = la.length ∧ slen w ⟨w0.heap.size + 2, 0, none⟩ = lb.length := by
  obtain ⟨A, c, rfl⟩ := h.sa.shape
  obtain ⟨B, d, rfl⟩ := h.sb.shape
  unfold slen
  rw [h.a.two.1, h.b.two.1]
  exact ⟨rfl, rfl⟩
/-- The invariant of Join's rounds. -/
def JInv (w0 : World) (N : Nat) (Z : Ax.Wr) (wr : World) : Prop :=
  ∃ W va ua la vb ub lb, ∃ f r : Nat, Js w0 wr W va ua la vb ub lb ∧ la.length + lb.length < f ∧ f + r = N + 1 ∧ W.out.length ≤ 3 * r ∧ Ax.Lim W (2147483648 * r) ∧
    Ax.aft (Ax.cur la ua) = Ax.bef (Ax.cur lb ub) ∧ Ax.puts W (Ax.jn f (Ax.cur la ua) (Ax.cur lb ub)) = Z

namespace Ax
theorem Lim.mono {W : Wr} {M M' : Int} (h : Lim W M) (hm : M ≤ M') : Lim W M' := ⟨h.1, by have := h.2.1; omega, h.2.2.1, by have := h.2.2.2.1; omega, fun s hs => by have := h.2.2.2.2 s hs; omega⟩
theorem dec_bal {k n j m x : Int} {t u : List Step} (h2 : k ≠ 2) (h1 : j ≠ 1) (hab : aft ((k, n) :: t) = bef ((j, m) :: u)) : aft (dec ((k, n) :: t) x) = bef (dec ((j, m) :: u) x) := by
  dsimp only [aft, bef] at hab
  rw [if_pos h2, if_pos h1] at hab
  unfold dec
  dsimp only
  split <;> split <;> (try simp only [aft, bef, if_pos h2, if_pos h1]) <;> omega
end Ax
section
variable {w0 w : World} {N : Nat} {Z W : Ax.Wr} {va vb : Value} {ua ub : Int} {la lb : List Ax.Step}
theorem JInv.put {f r : Nat} {k x : Int} (hj : Js w0 w (W.put k x) va ua la vb ub lb) (hf : la.length + lb.length < f) (hfr : f + 1 + r = N + 1) (hwl : W.out.length ≤ 3 * r) (hlim : Ax.Lim W (2147483648 * r)) (hx0 : 0 ≤ x) (hx : x ≤ 2147483648)
    (heq : Ax.aft (Ax.cur la ua) = Ax.bef (Ax.cur lb ub)) (hq : Ax.puts W ((k, x) :: Ax.jn f (Ax.cur la ua) (Ax.cur lb ub)) = Z) : JInv w0 N Z w :=
  ⟨_, _, _, _, _, _, _, f, r + 1, hj, hf, by omega, by have := Ax.len_put W k x; omega, (hlim.put k hx0).mono (by push_cast; omega), heq, hq⟩
theorem JInv.skip {f r : Nat} (hj : Js w0 w W va ua la vb ub lb) (hf : la.length + lb.length < f) (hfr : f + 1 + r = N + 1) (hwl : W.out.length ≤ 3 * r) (hlim : Ax.Lim W (2147483648 * r))
    (heq : Ax.aft (Ax.cur la ua) = Ax.bef (Ax.cur lb ub)) (hq : Ax.puts W (Ax.jn f (Ax.cur la ua) (Ax.cur lb ub)) = Z) : JInv w0 N Z w :=
  ⟨_, _, _, _, _, _, _, f, r + 1, hj, hf, by omega, by omega, hlim.mono (by push_cast; omega), heq, hq⟩
end

/-- What Join answers. -/
def JoinRet (w : World) (la lb : List Ax.Step) (e : Ending) (w' : World) : Prop :=
  ∃ v r, e = .returned (.tuple #[v, .int .i64 r]) ∧ Below w.heap.size w w' ∧ (r = 0 → Ax.check la = 0 ∧ Ax.check lb = 0 ∧ Ax.aft la = Ax.bef lb ∧
    ∃ lc, Steps w' v lc ∧ Ax.check lc = 0 ∧ lc = (Ax.puts Ax.Wr.zero (Ax.jn (la.length + lb.length + 1) la lb)).all)

set_option maxRecDepth 100000 in
set_option maxHeartbeats 8000000 in
theorem axis_join (w : World) (va vb : Value) (la lb : List Ax.Step) (ha : Steps w va la) (hb : Steps w vb lb) (hlA : la.length ≤ maxLen) (hlB : lb.length ≤ maxLen) :
    Calls Tryd.prog 14 #[va, vb] w (JoinRet w la lb) := by
  have HCA := Lib.hid (axis_check_max w va la ha hlA)
  have HCB := Lib.hid fun W (h : Below w.heap.size w W) => axis_check_max W vb lb (hb.below h) hlB
  clear hlA hlB
  by_cases ca : Ax.check la = 0
  case neg =>
    have hz : ((Ax.check la : Int) != 0) = true := by rw [bne_iff_ne]; exact ca
    have HZ := Lib.hid ca
    clear ha hb ca
    go_enter Tryd.func14, Tryd.ntmps14
    go_wp2_with (go_at_call 35; refine HCA.out.mono ?_; rintro e w1 ⟨rfl, hbb⟩; have HB1 := Lib.hid hbb; clear hbb)
    go_ret2
    exact ⟨_, _, rfl, HB1.out, fun h => absurd h HZ.out⟩
  case pos =>
  by_cases cb : Ax.check lb = 0
  case neg =>
    have hz : ((Ax.check lb : Int) != 0) = true := by rw [bne_iff_ne]; exact cb
    have HZ := Lib.hid cb
    rw [ca] at HCA
    clear ha hb cb
    go_enter Tryd.func14, Tryd.ntmps14
    go_wp2_with (go_at_call 35; first | ((with_reducible refine HCA.out.mono ?_); rintro e w1 ⟨rfl, hbb⟩; have HB1 := Lib.hid hbb; clear hbb) | ((with_reducible refine (HCB.out _ HB1.out).mono ?_); rintro e w2 ⟨rfl, hbb⟩; have HB2 := Lib.hid (below_tr HB1.out hbb); clear hbb))
    go_ret2
    exact ⟨_, _, rfl, HB2.out, fun h => absurd h HZ.out⟩
  case pos =>
  rw [ca] at HCA
  rw [cb] at HCB
  obtain ⟨oa, -, ba, aa⟩ := Ax.ck_zero la _ _ _ ca
  obtain ⟨ob, -, bb, ab⟩ := Ax.ck_zero lb _ _ _ cb
  have hl : la.length + lb.length ≤ 8589934588 := by
    have := Ax.len_sum oa
    have := Ax.len_sum ob
    omega
  have HSZ := Lib.hid (fun (W : Ax.Wr) (M : Int) (f : Nat) (x y : List Ax.Step) (h : Ax.Lim W M) (hx : ∀ s ∈ x, 0 ≤ s.2) (hy : ∀ s ∈ y, 0 ≤ s.2) (hq : Ax.puts W (Ax.jn f x y) = Ax.puts Ax.Wr.zero (Ax.jn (la.length + lb.length + 1) la lb)) =>
    Ax.Lim.join h hx hy hq oa ob (by omega) (by omega) (by omega) (by omega))
  have HLA := Lib.hid fun W (h : Below w.heap.size w W) => axis_lengths W va la (ha.below h) (by omega) oa (by omega) (by omega)
  have HLB := Lib.hid fun W (h : Below w.heap.size w W) => axis_lengths W vb lb (hb.below h) (by omega) ob (by omega) (by omega)
  by_cases cf : Ax.aft la = Ax.bef lb
  case neg =>
    have hz : ((Ax.bef lb : Int) != Ax.aft la) = true := by rw [bne_iff_ne]; exact fun h => cf h.symm
    clear ha hb oa ob ba aa bb ab cf ca cb
    generalize Ax.aft la = x at *
    generalize Ax.bef lb = y at *
    generalize Ax.aft lb = x2 at *
    generalize Ax.bef la = y2 at *
    go_enter Tryd.func14, Tryd.ntmps14
    go_wp2_with (first
      | (go_at_call 35; first | ((with_reducible refine HCA.out.mono ?_); rintro e w1 ⟨rfl, hbb⟩; have HB1 := Lib.hid hbb; clear hbb) | ((with_reducible refine (HCB.out _ HB1.out).mono ?_); rintro e w2 ⟨rfl, hbb⟩; have HB2 := Lib.hid (below_tr HB1.out hbb); clear hbb))
      | (go_at_call 36; first | ((with_reducible refine (HLA.out _ HB2.out).mono ?_); rintro e w3 ⟨rfl, hbb⟩; have HB3 := Lib.hid (below_tr HB2.out hbb); clear hbb) | ((with_reducible refine (HLB.out _ HB3.out).mono ?_); rintro e w4 ⟨rfl, hbb⟩; have HB4 := Lib.hid (below_tr HB3.out hbb); clear hbb)))
    go_ret2
    exact ⟨_, _, rfl, HB4.out, fun h => absurd h (by decide)⟩
  case pos =>
  obtain ⟨A0, c0, rfl⟩ := ha.shape
  obtain ⟨A1, c1, rfl⟩ := hb.shape
  have HSA := Lib.hid ha
  have HSB := Lib.hid hb
  have HOA := Lib.hid oa
  have HOB := Lib.hid ob
  have HEQ := Lib.hid cf
  have HCK := Lib.hid (And.intro ca cb)
  have hz : ((Ax.aft la : Int) != Ax.aft la) = false := by simp
  rw [← cf] at HLB
  clear ha hb oa ob ba aa bb ab cf ca cb
  obtain ⟨x, hx⟩ : ∃ x, x = Ax.aft la := ⟨_, rfl⟩
  rw [← hx] at HLA HLB hz
  clear hx
  generalize Ax.aft lb = x2 at *
  generalize Ax.bef la = y2 at *
  go_enter Tryd.func14, Tryd.ntmps14
  go_wp2_with (first
    | (go_at_call 35; first | ((with_reducible refine HCA.out.mono ?_); rintro e w1 ⟨rfl, hbb⟩; have HB1 := Lib.hid hbb; clear hbb) | ((with_reducible refine (HCB.out _ HB1.out).mono ?_); rintro e w2 ⟨rfl, hbb⟩; have HB2 := Lib.hid (below_tr HB1.out hbb); clear hbb))
    | (go_at_call 36; first | ((with_reducible refine (HLA.out _ HB2.out).mono ?_); rintro e w3 ⟨rfl, hbb⟩; have HB3 := Lib.hid (below_tr HB2.out hbb); clear hbb) | ((with_reducible refine (HLB.out _ HB3.out).mono ?_); rintro e w4 ⟨rfl, hbb⟩; have HB4 := Lib.hid (below_tr HB3.out hbb); clear hbb)))
  have HJ0 := Lib.hid (Js.start w4 (HSA.out.below HB4.out) (HSB.out.below HB4.out) HOA.out HOB.out)
  clear HCA HCB HLA HLB HB1 HB2 HB3
  go_loopw [] (fun wr => JInv w4 (la.length + lb.length) (Ax.puts Ax.Wr.zero (Ax.jn (la.length + lb.length + 1) la lb)) wr) (fun wr => slen wr ⟨w4.heap.size + 1, 0, none⟩ + slen wr ⟨w4.heap.size + 2, 0, none⟩)
  case atStart =>
    refine ⟨_, _, _, _, _, _, _, la.length + lb.length + 1, 0, HJ0.out, by omega, by omega, by simp [Ax.Wr.zero], ⟨by simp [Ax.Wr.zero], by simp [Ax.Wr.zero], by simp [Ax.Wr.zero], by simp [Ax.Wr.zero], by simp [Ax.Wr.zero]⟩, ?_, ?_⟩
    · rw [Ax.cur_zero, Ax.cur_zero]; exact HEQ.out
    · rw [Ax.cur_zero, Ax.cur_zero]
  case round =>
    obtain ⟨W, va', ua, la', vb', ub, lb', f, r, hj, hf, hfr, hwl, hlim, heq, hq⟩ := hrel
    have hlm := HSZ.out _ _ _ _ _ hlim (Ax.okS_pos (Ax.cur_ok hj.ra)) (Ax.okS_pos (Ax.cur_ok hj.rb)) hq
    have hla : la'.length ≤ 10000000000 := by omega
    have hlb : lb'.length ≤ 10000000000 := by omega
    have hwl2 : W.out.length ≤ 100000000000 := by omega
    have HJ := Lib.hid hj
    have HEN := Lib.hid hj.lens
    have HQ := Lib.hid hq
    have HE := Lib.hid heq
    have HRA := Lib.hid hj.ra
    have HRB := Lib.hid hj.rb
    clear hj hq heq
    obtain ⟨f, rfl⟩ : ∃ g, f = g + 1 := ⟨f - 1, by omega⟩
    rcases la' with _ | ⟨⟨k, n⟩, t⟩
    · rcases lb' with _ | ⟨⟨j, m⟩, u⟩
      · have hka : Ax.kd [] = -1 := rfl
        have HZ := Lib.hid (show W = _ from (by rw [show Ax.cur [] ua = [] from rfl, show Ax.cur [] ub = [] from rfl, Ax.jn_end]; rfl : W = Ax.puts W (Ax.jn (f + 1) (Ax.cur [] ua) (Ax.cur [] ub))).trans HQ.out)
        have HDN := Lib.hid (done_any _ _ _ W HJ.out.wr hwl2)
        go_wp2_with (first
          | (go_at_call 37; first | ((with_reducible refine (HJ.out.kindA hla).mono ?_); rintro e wk ⟨rfl, rfl⟩) | ((with_reducible refine (HJ.out.kindB hlb).mono ?_); rintro e wk ⟨rfl, rfl⟩))
          | (go_at_call 41; refine HDN.out.mono ?_; rintro e w9 ⟨v9, r9, rfl, hr9, hb9⟩; have HR9 := Lib.hid hr9; have HB9 := Lib.hid hb9; clear hr9 hb9))
        go_ret2
        refine ⟨_, _, rfl, (HB4.out.trans (HJ.out.bel.mono HB4.out.size)).trans (HB9.out.below (by have := HB4.out.size; omega) HB4.out.size), fun h0 => ⟨HCK.out.1, HCK.out.2, HEQ.out, ?_⟩⟩
        rcases HR9.out with ⟨q1, -, q3⟩ | ⟨-, q2, -⟩
        · exact ⟨_, q3, q1, by rw [HZ.out]⟩
        · omega
      · have hul : u.length ≤ 10000000000 := by simp at hlb; omega
        have p := HRB.out.1 (j, m) (List.mem_cons_self ..)
        obtain ⟨p1, p2, p3, p4⟩ := p
        dsimp only at p1 p2 p3 p4
        have p5 := HRB.out.2.1
        have p6 := HRB.out.2.2 j m u rfl
        have hka : Ax.kd [] = -1 := rfl
        by_cases h1 : j = 1
        · subst h1
          have HQ1 := Lib.hid (HQ.out.symm.trans (by rw [show Ax.cur ((1, m) :: u) ub = (1, m - ub) :: u from rfl, Ax.jn_add (by rw [Ax.kd_cur]; decide)]))
          have hkb : Ax.kd ((1, m) :: u) = 1 := rfl
          go_wp2_with (first
            | (go_at_call 37; first | ((with_reducible refine (HJ.out.kindA hla).mono ?_); rintro e wk ⟨rfl, rfl⟩) | ((with_reducible refine (HJ.out.kindB hlb).mono ?_); rintro e wk ⟨rfl, rfl⟩))
            | (go_at_call 39; first | ((with_reducible refine (HJ.out.leftA htl).mono ?_); rintro e w5 ⟨rfl, h5⟩; clear HJ; have HJ := Lib.hid h5; clear h5) | ((with_reducible refine (HJ.out.leftB hul).mono ?_); rintro e w6 ⟨rfl, h5⟩; clear HJ; have HJ := Lib.hid h5; clear h5))
            | (go_at_call 38; refine (HJ.out.putS _ _ hwl2 hlm (by omega) (by omega) (by omega)).mono ?_; rintro e w7 ⟨rfl, h5⟩; clear HJ; have HJ := Lib.hid h5; clear h5)
            | (go_at_call 40; first | ((with_reducible refine (HJ.out.takeAS htl _ (by omega) (by omega)).mono ?_); rintro e w8 ⟨v8, u8, l8, rfl, h5, h6, h7, h8⟩; clear HJ; have HJ := Lib.hid h5; have HC8 := Lib.hid h6; have HL8 := Lib.hid h7; have HM8 := Lib.hid h8; clear h5 h6 h7 h8) | ((with_reducible refine (HJ.out.takeBS hul _ (by omega) (by omega)).mono ?_); rintro e w9 ⟨v9, u9, l9, rfl, h5, h6, h7, h8⟩; clear HJ; have HJ := Lib.hid h5; have HC9 := Lib.hid h6; have HL9 := Lib.hid h7; have HM9 := Lib.hid h8; clear h5 h6 h7 h8)))
          obtain ⟨rfl, rfl⟩ := HM9.out trivial
          refine ⟨JInv.put (f := f) (r := r) HJ.out (by simp at hf ⊢; omega) (by omega) hwl hlim (by omega) (by omega) ?_ ?_, ?_⟩
          · rw [Ax.cur_zero, HE.out]
            simp [Ax.cur, Ax.bef]
          · rw [Ax.cur_zero]; exact HQ1.out.symm
          · have e1 := HJ.out.lens
            have e2 := HEN.out
            rw [e1.1, e1.2, e2.1, e2.2]
            simp only [List.length_cons]
            omega
        · exfalso
          have e := HE.out
          have n1 := Ax.bef_nonneg (l := u) fun s hs => HRB.out.1 s (List.mem_cons_of_mem _ hs)
          simp only [Ax.cur, Ax.aft, Ax.bef] at e
          rw [if_pos h1] at e
          omega
    · have htl : t.length ≤ 10000000000 := by simp at hla; omega
      have o := HRA.out.1 (k, n) (List.mem_cons_self ..)
      obtain ⟨o1, o2, o3, o4⟩ := o
      dsimp only at o1 o2 o3 o4
      have o5 := HRA.out.2.1
      have o6 := HRA.out.2.2 k n t rfl
      have hka : Ax.kd ((k, n) :: t) = k := rfl
      have hkr := hka
      by_cases h2 : k = 2
      · subst h2
        have HQ1 := Lib.hid (HQ.out.symm.trans (by rw [show Ax.cur ((2, n) :: t) ua = (2, n - ua) :: t from rfl, Ax.jn_cut]))
        go_wp2_with (first
          | (go_at_call 37; first | ((with_reducible refine (HJ.out.kindA hla).mono ?_); rintro e wk ⟨rfl, rfl⟩) | ((with_reducible refine (HJ.out.kindB hlb).mono ?_); rintro e wk ⟨rfl, rfl⟩))
          | (go_at_call 39; ((with_reducible refine (HJ.out.leftA htl).mono ?_); rintro e w5 ⟨rfl, h5⟩; clear HJ; have HJ := Lib.hid h5; clear h5))
          | (go_at_call 38; refine (HJ.out.putS _ _ hwl2 hlm (by omega) (by omega) (by omega)).mono ?_; rintro e w7 ⟨rfl, h5⟩; clear HJ; have HJ := Lib.hid h5; clear h5)
          | (go_at_call 40; ((with_reducible refine (HJ.out.takeAS htl _ (by omega) (by omega)).mono ?_); rintro e w8 ⟨v8, u8, l8, rfl, h5, h6, h7, h8⟩; clear HJ; have HJ := Lib.hid h5; have HC8 := Lib.hid h6; have HL8 := Lib.hid h7; have HM8 := Lib.hid h8; clear h5 h6 h7 h8)))
        obtain ⟨rfl, rfl⟩ := HM8.out trivial
        refine ⟨JInv.put (f := f) (r := r) HJ.out (by simp at hf; omega) (by omega) hwl hlim (by omega) (by omega) ?_ ?_, ?_⟩
        · rw [Ax.cur_zero]
          have := HE.out
          simpa [Ax.cur, Ax.aft] using this
        · rw [Ax.cur_zero]; exact HQ1.out.symm
        · have e1 := HJ.out.lens
          have e2 := HEN.out
          rw [e1.1, e1.2, e2.1, e2.2, List.length_cons]
          omega
      · rcases lb' with _ | ⟨⟨j, m⟩, u⟩
        · exfalso
          have e := HE.out
          have n1 := Ax.aft_nonneg (l := t) fun s hs => HRA.out.1 s (List.mem_cons_of_mem _ hs)
          simp only [Ax.cur, Ax.aft, Ax.bef] at e
          rw [if_pos h2] at e
          omega
        have hul : u.length ≤ 10000000000 := by simp at hlb; omega
        have p := HRB.out.1 (j, m) (List.mem_cons_self ..)
        obtain ⟨p1, p2, p3, p4⟩ := p
        dsimp only at p1 p2 p3 p4
        have p5 := HRB.out.2.1
        have p6 := HRB.out.2.2 j m u rfl
        have z2 : ((k : Int) == 2) = false := by rw [beq_eq_false_iff_ne]; exact h2
        by_cases h1 : j = 1
        · subst h1
          have HQ1 := Lib.hid (HQ.out.symm.trans (by rw [show Ax.cur ((1, m) :: u) ub = (1, m - ub) :: u from rfl, Ax.jn_add (by rw [Ax.kd_cur]; exact h2)]))
          have hkb : Ax.kd ((1, m) :: u) = 1 := rfl
          go_wp2_with (first
            | (go_at_call 37; first | ((with_reducible refine (HJ.out.kindA hla).mono ?_); rintro e wk ⟨rfl, rfl⟩) | ((with_reducible refine (HJ.out.kindB hlb).mono ?_); rintro e wk ⟨rfl, rfl⟩))
            | (go_at_call 39; first | ((with_reducible refine (HJ.out.leftA htl).mono ?_); rintro e w5 ⟨rfl, h5⟩; clear HJ; have HJ := Lib.hid h5; clear h5) | ((with_reducible refine (HJ.out.leftB hul).mono ?_); rintro e w6 ⟨rfl, h5⟩; clear HJ; have HJ := Lib.hid h5; clear h5))
            | (go_at_call 38; refine (HJ.out.putS _ _ hwl2 hlm (by omega) (by omega) (by omega)).mono ?_; rintro e w7 ⟨rfl, h5⟩; clear HJ; have HJ := Lib.hid h5; clear h5)
            | (go_at_call 40; first | ((with_reducible refine (HJ.out.takeAS htl _ (by omega) (by omega)).mono ?_); rintro e w8 ⟨v8, u8, l8, rfl, h5, h6, h7, h8⟩; clear HJ; have HJ := Lib.hid h5; have HC8 := Lib.hid h6; have HL8 := Lib.hid h7; have HM8 := Lib.hid h8; clear h5 h6 h7 h8) | ((with_reducible refine (HJ.out.takeBS hul _ (by omega) (by omega)).mono ?_); rintro e w9 ⟨v9, u9, l9, rfl, h5, h6, h7, h8⟩; clear HJ; have HJ := Lib.hid h5; have HC9 := Lib.hid h6; have HL9 := Lib.hid h7; have HM9 := Lib.hid h8; clear h5 h6 h7 h8)))
          obtain ⟨rfl, rfl⟩ := HM9.out trivial
          refine ⟨JInv.put (f := f) (r := r) HJ.out (by simp at hf ⊢; omega) (by omega) hwl hlim (by omega) (by omega) ?_ ?_, ?_⟩
          · rw [Ax.cur_zero, HE.out]
            simp [Ax.cur, Ax.bef]
          · rw [Ax.cur_zero]; exact HQ1.out.symm
          · have e1 := HJ.out.lens
            have e2 := HEN.out
            rw [e1.1, e1.2, e2.1, e2.2]
            simp only [List.length_cons]
            omega
        have z1 : ((j : Int) == 1) = false := by rw [beq_eq_false_iff_ne]; exact h1
        rcases (show k = 0 ∨ k = 1 by omega) with rfl | rfl
        · by_cases hle : n - ua ≤ m - ub
          · have hx : min (n - ua) (m - ub) = n - ua := by omega
            have HQ1 := Lib.hid (HQ.out.symm.trans (by rw [show Ax.cur ((0, n) :: t) ua = (0, n - ua) :: t from rfl, show Ax.cur ((j, m) :: u) ub = (j, m - ub) :: u from rfl, Ax.jn_mix (by decide) (by exact h1), show Ax.mix 0 j (min (n - ua) (m - ub)) = [(j, (min (n - ua) (m - ub)))] from by simp [Ax.mix]]))
            have HB1 := Lib.hid (show Ax.aft (Ax.dec ((0, n - ua) :: t) (min (n - ua) (m - ub))) = Ax.bef (Ax.dec ((j, m - ub) :: u) (min (n - ua) (m - ub))) from Ax.dec_bal (by decide) (by exact h1) HE.out)
            have hkb : Ax.kd ((j, m) :: u) = j := rfl
            have HX := Lib.hid hx
            clear HQ HE hx
            go_wp2_with (first
              | (go_at_call 37; first | ((with_reducible refine (HJ.out.kindA hla).mono ?_); rintro e wk ⟨rfl, rfl⟩) | ((with_reducible refine (HJ.out.kindB hlb).mono ?_); rintro e wk ⟨rfl, rfl⟩))
              | (go_at_call 39; first | ((with_reducible refine (HJ.out.leftA htl).mono ?_); rintro e w5 ⟨rfl, h5⟩; clear HJ; have HJ := Lib.hid h5; clear h5) | ((with_reducible refine (HJ.out.leftB hul).mono ?_); rintro e w6 ⟨rfl, h5⟩; clear HJ; have HJ := Lib.hid h5; clear h5))
              | (go_at_call 38; refine (HJ.out.putS _ _ hwl2 hlm (by omega) (by omega) (by omega)).mono ?_; rintro e w7 ⟨rfl, h5⟩; clear HJ; have HJ := Lib.hid h5; clear h5)
              | (go_at_call 40; first | ((with_reducible refine (HJ.out.takeAS htl _ (by omega) (by omega)).mono ?_); rintro e w8 ⟨v8, u8, l8, rfl, h5, h6, h7, h8⟩; clear HJ; have HJ := Lib.hid h5; have HC8 := Lib.hid h6; have HL8 := Lib.hid h7; have HM8 := Lib.hid h8; clear h5 h6 h7 h8) | ((with_reducible refine (HJ.out.takeBS hul _ (by omega) (by omega)).mono ?_); rintro e w9 ⟨v9, u9, l9, rfl, h5, h6, h7, h8⟩; clear HJ; have HJ := Lib.hid h5; have HC9 := Lib.hid h6; have HL9 := Lib.hid h7; have HM9 := Lib.hid h8; clear h5 h6 h7 h8)))
            have l9 := HM8.out HX.out
            obtain ⟨rfl, rfl⟩ := l9
            have l8 := HL9.out
            refine ⟨JInv.put (f := f) (r := r) HJ.out (by simp at hf ⊢; omega) (by omega) hwl hlim (by omega) (by omega) ?_ ?_, ?_⟩
            · rw [HC8.out, HC9.out]; exact HB1.out
            · rw [HC8.out, HC9.out]; exact HQ1.out.symm
            · have e1 := HJ.out.lens
              have e2 := HEN.out
              rw [e1.1, e1.2, e2.1, e2.2]
              simp only [List.length_cons]
              omega
          · have hx : min (n - ua) (m - ub) = m - ub := by omega
            have HQ1 := Lib.hid (HQ.out.symm.trans (by rw [show Ax.cur ((0, n) :: t) ua = (0, n - ua) :: t from rfl, show Ax.cur ((j, m) :: u) ub = (j, m - ub) :: u from rfl, Ax.jn_mix (by decide) (by exact h1), show Ax.mix 0 j (min (n - ua) (m - ub)) = [(j, (min (n - ua) (m - ub)))] from by simp [Ax.mix]]))
            have HB1 := Lib.hid (show Ax.aft (Ax.dec ((0, n - ua) :: t) (min (n - ua) (m - ub))) = Ax.bef (Ax.dec ((j, m - ub) :: u) (min (n - ua) (m - ub))) from Ax.dec_bal (by decide) (by exact h1) HE.out)
            have hkb : Ax.kd ((j, m) :: u) = j := rfl
            have HX := Lib.hid hx
            clear HQ HE hx
            go_wp2_with (first
              | (go_at_call 37; first | ((with_reducible refine (HJ.out.kindA hla).mono ?_); rintro e wk ⟨rfl, rfl⟩) | ((with_reducible refine (HJ.out.kindB hlb).mono ?_); rintro e wk ⟨rfl, rfl⟩))
              | (go_at_call 39; first | ((with_reducible refine (HJ.out.leftA htl).mono ?_); rintro e w5 ⟨rfl, h5⟩; clear HJ; have HJ := Lib.hid h5; clear h5) | ((with_reducible refine (HJ.out.leftB hul).mono ?_); rintro e w6 ⟨rfl, h5⟩; clear HJ; have HJ := Lib.hid h5; clear h5))
              | (go_at_call 38; refine (HJ.out.putS _ _ hwl2 hlm (by omega) (by omega) (by omega)).mono ?_; rintro e w7 ⟨rfl, h5⟩; clear HJ; have HJ := Lib.hid h5; clear h5)
              | (go_at_call 40; first | ((with_reducible refine (HJ.out.takeAS htl _ (by omega) (by omega)).mono ?_); rintro e w8 ⟨v8, u8, l8, rfl, h5, h6, h7, h8⟩; clear HJ; have HJ := Lib.hid h5; have HC8 := Lib.hid h6; have HL8 := Lib.hid h7; have HM8 := Lib.hid h8; clear h5 h6 h7 h8) | ((with_reducible refine (HJ.out.takeBS hul _ (by omega) (by omega)).mono ?_); rintro e w9 ⟨v9, u9, l9, rfl, h5, h6, h7, h8⟩; clear HJ; have HJ := Lib.hid h5; have HC9 := Lib.hid h6; have HL9 := Lib.hid h7; have HM9 := Lib.hid h8; clear h5 h6 h7 h8)))
            have l9 := HM9.out HX.out
            obtain ⟨rfl, rfl⟩ := l9
            have l8 := HL8.out
            refine ⟨JInv.put (f := f) (r := r) HJ.out (by simp at hf ⊢; omega) (by omega) hwl hlim (by omega) (by omega) ?_ ?_, ?_⟩
            · rw [HC8.out, HC9.out]; exact HB1.out
            · rw [HC8.out, HC9.out]; exact HQ1.out.symm
            · have e1 := HJ.out.lens
              have e2 := HEN.out
              rw [e1.1, e1.2, e2.1, e2.2]
              simp only [List.length_cons]
              omega
        · rcases (show j = 0 ∨ j = 2 by omega) with rfl | rfl
          · by_cases hle : n - ua ≤ m - ub
            · have hx : min (n - ua) (m - ub) = n - ua := by omega
              have HQ1 := Lib.hid (HQ.out.symm.trans (by rw [show Ax.cur ((1, n) :: t) ua = (1, n - ua) :: t from rfl, show Ax.cur ((0, m) :: u) ub = (0, m - ub) :: u from rfl, Ax.jn_mix (by decide) (by decide), show Ax.mix 1 0 (min (n - ua) (m - ub)) = [(1, (min (n - ua) (m - ub)))] from by simp [Ax.mix]]))
              have HB1 := Lib.hid (show Ax.aft (Ax.dec ((1, n - ua) :: t) (min (n - ua) (m - ub))) = Ax.bef (Ax.dec ((0, m - ub) :: u) (min (n - ua) (m - ub))) from Ax.dec_bal (by decide) (by decide) HE.out)
              have hkb : Ax.kd ((0, m) :: u) = 0 := rfl
              have HX := Lib.hid hx
              clear HQ HE hx
              go_wp2_with (first
                | (go_at_call 37; first | ((with_reducible refine (HJ.out.kindA hla).mono ?_); rintro e wk ⟨rfl, rfl⟩) | ((with_reducible refine (HJ.out.kindB hlb).mono ?_); rintro e wk ⟨rfl, rfl⟩))
                | (go_at_call 39; first | ((with_reducible refine (HJ.out.leftA htl).mono ?_); rintro e w5 ⟨rfl, h5⟩; clear HJ; have HJ := Lib.hid h5; clear h5) | ((with_reducible refine (HJ.out.leftB hul).mono ?_); rintro e w6 ⟨rfl, h5⟩; clear HJ; have HJ := Lib.hid h5; clear h5))
                | (go_at_call 38; refine (HJ.out.putS _ _ hwl2 hlm (by omega) (by omega) (by omega)).mono ?_; rintro e w7 ⟨rfl, h5⟩; clear HJ; have HJ := Lib.hid h5; clear h5)
                | (go_at_call 40; first | ((with_reducible refine (HJ.out.takeAS htl _ (by omega) (by omega)).mono ?_); rintro e w8 ⟨v8, u8, l8, rfl, h5, h6, h7, h8⟩; clear HJ; have HJ := Lib.hid h5; have HC8 := Lib.hid h6; have HL8 := Lib.hid h7; have HM8 := Lib.hid h8; clear h5 h6 h7 h8) | ((with_reducible refine (HJ.out.takeBS hul _ (by omega) (by omega)).mono ?_); rintro e w9 ⟨v9, u9, l9, rfl, h5, h6, h7, h8⟩; clear HJ; have HJ := Lib.hid h5; have HC9 := Lib.hid h6; have HL9 := Lib.hid h7; have HM9 := Lib.hid h8; clear h5 h6 h7 h8)))
              have l9 := HM8.out HX.out
              obtain ⟨rfl, rfl⟩ := l9
              have l8 := HL9.out
              refine ⟨JInv.put (f := f) (r := r) HJ.out (by simp at hf ⊢; omega) (by omega) hwl hlim (by omega) (by omega) ?_ ?_, ?_⟩
              · rw [HC8.out, HC9.out]; exact HB1.out
              · rw [HC8.out, HC9.out]; exact HQ1.out.symm
              · have e1 := HJ.out.lens
                have e2 := HEN.out
                rw [e1.1, e1.2, e2.1, e2.2]
                simp only [List.length_cons]
                omega
            · have hx : min (n - ua) (m - ub) = m - ub := by omega
              have HQ1 := Lib.hid (HQ.out.symm.trans (by rw [show Ax.cur ((1, n) :: t) ua = (1, n - ua) :: t from rfl, show Ax.cur ((0, m) :: u) ub = (0, m - ub) :: u from rfl, Ax.jn_mix (by decide) (by decide), show Ax.mix 1 0 (min (n - ua) (m - ub)) = [(1, (min (n - ua) (m - ub)))] from by simp [Ax.mix]]))
              have HB1 := Lib.hid (show Ax.aft (Ax.dec ((1, n - ua) :: t) (min (n - ua) (m - ub))) = Ax.bef (Ax.dec ((0, m - ub) :: u) (min (n - ua) (m - ub))) from Ax.dec_bal (by decide) (by decide) HE.out)
              have hkb : Ax.kd ((0, m) :: u) = 0 := rfl
              have HX := Lib.hid hx
              clear HQ HE hx
              go_wp2_with (first
                | (go_at_call 37; first | ((with_reducible refine (HJ.out.kindA hla).mono ?_); rintro e wk ⟨rfl, rfl⟩) | ((with_reducible refine (HJ.out.kindB hlb).mono ?_); rintro e wk ⟨rfl, rfl⟩))
                | (go_at_call 39; first | ((with_reducible refine (HJ.out.leftA htl).mono ?_); rintro e w5 ⟨rfl, h5⟩; clear HJ; have HJ := Lib.hid h5; clear h5) | ((with_reducible refine (HJ.out.leftB hul).mono ?_); rintro e w6 ⟨rfl, h5⟩; clear HJ; have HJ := Lib.hid h5; clear h5))
                | (go_at_call 38; refine (HJ.out.putS _ _ hwl2 hlm (by omega) (by omega) (by omega)).mono ?_; rintro e w7 ⟨rfl, h5⟩; clear HJ; have HJ := Lib.hid h5; clear h5)
                | (go_at_call 40; first | ((with_reducible refine (HJ.out.takeAS htl _ (by omega) (by omega)).mono ?_); rintro e w8 ⟨v8, u8, l8, rfl, h5, h6, h7, h8⟩; clear HJ; have HJ := Lib.hid h5; have HC8 := Lib.hid h6; have HL8 := Lib.hid h7; have HM8 := Lib.hid h8; clear h5 h6 h7 h8) | ((with_reducible refine (HJ.out.takeBS hul _ (by omega) (by omega)).mono ?_); rintro e w9 ⟨v9, u9, l9, rfl, h5, h6, h7, h8⟩; clear HJ; have HJ := Lib.hid h5; have HC9 := Lib.hid h6; have HL9 := Lib.hid h7; have HM9 := Lib.hid h8; clear h5 h6 h7 h8)))
              have l9 := HM9.out HX.out
              obtain ⟨rfl, rfl⟩ := l9
              have l8 := HL8.out
              refine ⟨JInv.put (f := f) (r := r) HJ.out (by simp at hf ⊢; omega) (by omega) hwl hlim (by omega) (by omega) ?_ ?_, ?_⟩
              · rw [HC8.out, HC9.out]; exact HB1.out
              · rw [HC8.out, HC9.out]; exact HQ1.out.symm
              · have e1 := HJ.out.lens
                have e2 := HEN.out
                rw [e1.1, e1.2, e2.1, e2.2]
                simp only [List.length_cons]
                omega
          · by_cases hle : n - ua ≤ m - ub
            · have hx : min (n - ua) (m - ub) = n - ua := by omega
              have HQ1 := Lib.hid (HQ.out.symm.trans (by rw [show Ax.cur ((1, n) :: t) ua = (1, n - ua) :: t from rfl, show Ax.cur ((2, m) :: u) ub = (2, m - ub) :: u from rfl, Ax.jn_mix (by decide) (by decide), show Ax.mix 1 2 (min (n - ua) (m - ub)) = [] from by simp [Ax.mix]]))
              have HB1 := Lib.hid (show Ax.aft (Ax.dec ((1, n - ua) :: t) (min (n - ua) (m - ub))) = Ax.bef (Ax.dec ((2, m - ub) :: u) (min (n - ua) (m - ub))) from Ax.dec_bal (by decide) (by decide) HE.out)
              have hkb : Ax.kd ((2, m) :: u) = 2 := rfl
              have HX := Lib.hid hx
              clear HQ HE hx
              go_wp2_with (first
                | (go_at_call 37; first | ((with_reducible refine (HJ.out.kindA hla).mono ?_); rintro e wk ⟨rfl, rfl⟩) | ((with_reducible refine (HJ.out.kindB hlb).mono ?_); rintro e wk ⟨rfl, rfl⟩))
                | (go_at_call 39; first | ((with_reducible refine (HJ.out.leftA htl).mono ?_); rintro e w5 ⟨rfl, h5⟩; clear HJ; have HJ := Lib.hid h5; clear h5) | ((with_reducible refine (HJ.out.leftB hul).mono ?_); rintro e w6 ⟨rfl, h5⟩; clear HJ; have HJ := Lib.hid h5; clear h5))
                | (go_at_call 38; refine (HJ.out.putS _ _ hwl2 hlm (by omega) (by omega) (by omega)).mono ?_; rintro e w7 ⟨rfl, h5⟩; clear HJ; have HJ := Lib.hid h5; clear h5)
                | (go_at_call 40; first | ((with_reducible refine (HJ.out.takeAS htl _ (by omega) (by omega)).mono ?_); rintro e w8 ⟨v8, u8, l8, rfl, h5, h6, h7, h8⟩; clear HJ; have HJ := Lib.hid h5; have HC8 := Lib.hid h6; have HL8 := Lib.hid h7; have HM8 := Lib.hid h8; clear h5 h6 h7 h8) | ((with_reducible refine (HJ.out.takeBS hul _ (by omega) (by omega)).mono ?_); rintro e w9 ⟨v9, u9, l9, rfl, h5, h6, h7, h8⟩; clear HJ; have HJ := Lib.hid h5; have HC9 := Lib.hid h6; have HL9 := Lib.hid h7; have HM9 := Lib.hid h8; clear h5 h6 h7 h8)))
              have l9 := HM8.out HX.out
              obtain ⟨rfl, rfl⟩ := l9
              have l8 := HL9.out
              refine ⟨JInv.skip (f := f) (r := r) HJ.out (by simp at hf ⊢; omega) (by omega) hwl hlim ?_ ?_, ?_⟩
              · rw [HC8.out, HC9.out]; exact HB1.out
              · rw [HC8.out, HC9.out]; exact HQ1.out.symm
              · have e1 := HJ.out.lens
                have e2 := HEN.out
                rw [e1.1, e1.2, e2.1, e2.2]
                simp only [List.length_cons]
                omega
            · have hx : min (n - ua) (m - ub) = m - ub := by omega
              have HQ1 := Lib.hid (HQ.out.symm.trans (by rw [show Ax.cur ((1, n) :: t) ua = (1, n - ua) :: t from rfl, show Ax.cur ((2, m) :: u) ub = (2, m - ub) :: u from rfl, Ax.jn_mix (by decide) (by decide), show Ax.mix 1 2 (min (n - ua) (m - ub)) = [] from by simp [Ax.mix]]))
              have HB1 := Lib.hid (show Ax.aft (Ax.dec ((1, n - ua) :: t) (min (n - ua) (m - ub))) = Ax.bef (Ax.dec ((2, m - ub) :: u) (min (n - ua) (m - ub))) from Ax.dec_bal (by decide) (by decide) HE.out)
              have hkb : Ax.kd ((2, m) :: u) = 2 := rfl
              have HX := Lib.hid hx
              clear HQ HE hx
              go_wp2_with (first
                | (go_at_call 37; first | ((with_reducible refine (HJ.out.kindA hla).mono ?_); rintro e wk ⟨rfl, rfl⟩) | ((with_reducible refine (HJ.out.kindB hlb).mono ?_); rintro e wk ⟨rfl, rfl⟩))
                | (go_at_call 39; first | ((with_reducible refine (HJ.out.leftA htl).mono ?_); rintro e w5 ⟨rfl, h5⟩; clear HJ; have HJ := Lib.hid h5; clear h5) | ((with_reducible refine (HJ.out.leftB hul).mono ?_); rintro e w6 ⟨rfl, h5⟩; clear HJ; have HJ := Lib.hid h5; clear h5))
                | (go_at_call 38; refine (HJ.out.putS _ _ hwl2 hlm (by omega) (by omega) (by omega)).mono ?_; rintro e w7 ⟨rfl, h5⟩; clear HJ; have HJ := Lib.hid h5; clear h5)
                | (go_at_call 40; first | ((with_reducible refine (HJ.out.takeAS htl _ (by omega) (by omega)).mono ?_); rintro e w8 ⟨v8, u8, l8, rfl, h5, h6, h7, h8⟩; clear HJ; have HJ := Lib.hid h5; have HC8 := Lib.hid h6; have HL8 := Lib.hid h7; have HM8 := Lib.hid h8; clear h5 h6 h7 h8) | ((with_reducible refine (HJ.out.takeBS hul _ (by omega) (by omega)).mono ?_); rintro e w9 ⟨v9, u9, l9, rfl, h5, h6, h7, h8⟩; clear HJ; have HJ := Lib.hid h5; have HC9 := Lib.hid h6; have HL9 := Lib.hid h7; have HM9 := Lib.hid h8; clear h5 h6 h7 h8)))
              have l9 := HM9.out HX.out
              obtain ⟨rfl, rfl⟩ := l9
              have l8 := HL8.out
              refine ⟨JInv.skip (f := f) (r := r) HJ.out (by simp at hf ⊢; omega) (by omega) hwl hlim ?_ ?_, ?_⟩
              · rw [HC8.out, HC9.out]; exact HB1.out
              · rw [HC8.out, HC9.out]; exact HQ1.out.symm
              · have e1 := HJ.out.lens
                have e2 := HEN.out
                rw [e1.1, e1.2, e2.1, e2.2]
                simp only [List.length_cons]
                omega
end Go.Proofs.YtjgojbkmeggmhaaDoor
