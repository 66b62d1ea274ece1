/- The contracts of exact's rounded. -/
import Derived.Test.YtmmlcponmdalmaaGreatDoorExM
import Derived.Deep.QuietTactic
import Derived.BigQuiet
namespace Go.Proofs.YtmmlcponmdalmaaGreatDoor
open Go.RowKit

/-- The nearest whole number's digits. -/
def Nt.rnd (n d : Nat) : Nat := (n + n + d) / (d + d)

set_option maxRecDepth 100000 in
set_option maxHeartbeats 4000000 in
theorem rounded_o (m : Bool) (n d : Nat) (A1 : Option Addr) (c1 : Nat) (A2 : Option Addr) (c2 : Nat) (w : World) (h1 : Nv w (.slice A1 (Nt.digs n).length c1) (Nt.digs n)) (h2 : Nv w (.slice A2 (Nt.digs d).length c2) (Nt.digs d)) (hn : (Nt.digs n).length ≤ 400000) (hd : (Nt.digs d).length ≤ 400000) (h0 : d ≠ 0) :
    Calls Tryz.prog 192 #[.agg #[.bool m, .slice A1 (Nt.digs n).length c1, .slice A2 (Nt.digs d).length c2]] w fun e w' => ∃ B k B' k', e = .returned (.agg #[.bool m, .slice B (Nt.digs (Nt.rnd n d)).length k, .slice B' (Nt.digs 1).length k']) ∧ Nv w' (.slice B (Nt.digs (Nt.rnd n d)).length k) (Nt.digs (Nt.rnd n d)) ∧ Nv w' (.slice B' (Nt.digs 1).length k') (Nt.digs 1) ∧ Below w.heap.size w w' := by
  have hnn : (Nt.digs (n + n)).length ≤ 400001 := digs_add_le hn hn (Nat.le_refl _)
  have hdd : (Nt.digs (d + d)).length ≤ 400001 := digs_add_le hd hd (Nat.le_refl _)
  have hs : (Nt.digs (n + n + d)).length ≤ 400002 := digs_add_le hnn (Nat.le_trans hd (by omega)) (Nat.le_refl _)
  have HP1 := Lib.hid fun (W : World) (h : Nv W (.slice A1 (Nt.digs n).length c1) (Nt.digs n)) => plus_o _ _ n n W h h (by omega) (by omega)
  have HP2 := Lib.hid fun (W : World) B k (h : Nv W (.slice B (Nt.digs (n + n)).length k) (Nt.digs (n + n))) (h' : Nv W (.slice A2 (Nt.digs d).length c2) (Nt.digs d)) => plus_o _ _ (n + n) d W h h' (by omega) (by omega)
  have HP3 := Lib.hid fun (W : World) (h : Nv W (.slice A2 (Nt.digs d).length c2) (Nt.digs d)) => plus_o _ _ d d W h h (by omega) (by omega)
  have HDV := Lib.hid fun (W : World) B k B' k' (h : Nv W (.slice B (Nt.digs (n + n + d)).length k) (Nt.digs (n + n + d))) (h' : Nv W (.slice B' (Nt.digs (d + d)).length k') (Nt.digs (d + d))) => divide_o _ _ (n + n + d) (d + d) W h h' (by omega) (by omega) (by omega)
  have hr : Nt.rnd n d = (n + n + d) / (d + d) := rfl
  rw [hr]
  clear hr hnn hdd hs hn hd h0
  obtain ⟨s1, q1⟩ : ∃ s1, s1 = n + n := ⟨_, rfl⟩
  rw [← q1] at HP1 HP2 HDV ⊢
  obtain ⟨s2, q2⟩ : ∃ s2, s2 = s1 + d := ⟨_, rfl⟩
  rw [← q2] at HP2 HDV ⊢
  obtain ⟨s3, q3⟩ : ∃ s3, s3 = d + d := ⟨_, rfl⟩
  rw [← q3] at HP3 HDV ⊢
  clear q1 q2 q3
  have HL := Lib.hid (((Loc.start w).alloc' rfl 89 #[.bool m, .slice A1 (Nt.digs n).length c1, .slice A2 (Nt.digs d).length c2]).alloc' (g := w.heap.size + 1) (by simp) 89 #[.bool false, .slice none 0 0, .slice none 0 0])
  have HN := Lib.hid (h1.below HL.out.bel)
  have HD := Lib.hid (h2.below HL.out.bel)
  clear h1 h2
  go_enter Tryz.func192, Tryz.ntmps192
  go_upto_region 1 with fail
  obtain ⟨x0, x1, x2, -, -, -⟩ := (HL.out.blk (g := w.heap.size) (t := 89) (cs := #[.bool m, .slice A1 (Nt.digs n).length c1, .slice A2 (Nt.digs d).length c2]) (by simp)).three
  clear x0
  have HL' := Lib.hid HL.out.drew
  have HN' := Lib.hid HN.out.drew
  have HD' := Lib.hid HD.out.drew
  clear HL HN HD
  rename Hid _ => HD
  rename Hid (Nv _ (.slice A1 _ _) _) => HN
  rename Hid (Loc _ _ _) => HL
  go_region_held3 (fun w' => w'.cell? ⟨w.heap.size, 1, none⟩ = some (.slice A1 (Nt.digs n).length c1) ∧ w'.cell? ⟨w.heap.size, 2, none⟩ = some (.slice A2 (Nt.digs d).length c2)) (first | exact ⟨by assumption, by assumption⟩ | exact ⟨HL.out.c1 (t := 89) (a := .bool m) (c := .slice A2 (Nt.digs d).length c2) (by simp), HL.out.c2 (t := 89) (a := .bool m) (b := .slice A1 (Nt.digs n).length c1) (by simp)⟩ | exact ⟨HL.out.drew.c1 (t := 89) (a := .bool m) (c := .slice A2 (Nt.digs d).length c2) (by simp), HL.out.drew.c2 (t := 89) (a := .bool m) (b := .slice A1 (Nt.digs n).length c1) (by simp)⟩ | fail) (first
    | (go_at_call 98; first
      | ((with_reducible refine (HP1.out _ HN.out).mono ?_); rintro e w2 ⟨B1, k1, rfl, hq, hb⟩; have H1 := Lib.hid hq; clear hq;  (try (have hx := HN.out.below hb; clear HN; have HN := Lib.hid hx; clear hx)); (try (have hx := HD.out.below hb; clear HD; have HD := Lib.hid hx; clear hx)); (try (have hx := H2.out.below hb; clear H2; have H2 := Lib.hid hx; clear hx)); (try (have hx := H3.out.below hb; clear H3; have H3 := Lib.hid hx; clear hx)); have hl := HL.out.step hb; clear HL; have HL := Lib.hid hl; clear hl hb)
      | ((with_reducible refine (HP3.out _ HD.out).mono ?_); rintro e w3 ⟨B3, k3, rfl, hq, hb⟩; have H3 := Lib.hid hq; clear hq;  (try (have hx := HN.out.below hb; clear HN; have HN := Lib.hid hx; clear hx)); (try (have hx := HD.out.below hb; clear HD; have HD := Lib.hid hx; clear hx)); (try (have hx := H2.out.below hb; clear H2; have H2 := Lib.hid hx; clear hx)); (try (have hx := H1.out.below hb; clear H1; have H1 := Lib.hid hx; clear hx)); have hl := HL.out.step hb; clear HL; have HL := Lib.hid hl; clear hl hb)
      | ((with_reducible refine (HP2.out _ _ _ H1.out HD.out).mono ?_); rintro e w4 ⟨B2, k2, rfl, hq, hb⟩; have H2 := Lib.hid hq; clear hq;  (try (have hx := HN.out.below hb; clear HN; have HN := Lib.hid hx; clear hx)); (try (have hx := HD.out.below hb; clear HD; have HD := Lib.hid hx; clear hx)); (try (have hx := H1.out.below hb; clear H1; have H1 := Lib.hid hx; clear hx)); (try (have hx := H3.out.below hb; clear H3; have H3 := Lib.hid hx; clear hx)); have hl := HL.out.step hb; clear HL; have HL := Lib.hid hl; clear hl hb) | fail)
    | (go_at_call 48; (with_reducible refine (HDV.out _ _ _ _ _ H2.out H3.out).mono ?_); rintro e w5 ⟨B4, k4, B5, k5, rfl, hq, -, hb⟩; have HQ := Lib.hid hq; have hl := HL.out.step hb; clear HL; have HL := Lib.hid hl; clear hq hl hb) | fail)
  all_goals
    have bA := HL.out.blk (g := w.heap.size) (t := 89) (cs := #[.bool m, .slice A1 (Nt.digs n).length c1, .slice A2 (Nt.digs d).length c2]) (by simp)
    have bB := HL.out.blk (g := w.heap.size + 1) (t := 89) (cs := #[.bool false, .slice none 0 0, .slice none 0 0]) (by simp)
    obtain ⟨x0, x1, x2, -, -, -⟩ := bA.three
    obtain ⟨y0, y1, y2, g0, g1, g2⟩ := bB.three
    have LT := Lib.hid bB.lt
    have hlt := bB.lt
    have HB := Lib.hid bB
    clear x1 x2 bA bB
    go_wp2_with fail
    obtain ⟨bS, -, -, -⟩ := HB.out.three_set (.bool m) (.slice B4 (Nt.digs (s2 / s3)).length k4) (.slice (some ⟨w5.heap.size, 0, none⟩) 1 1)
    obtain ⟨q0, q1, q2, -, -, -⟩ := (bS.alloc (.cells #[.int .u32 1] 100)).three
    have hQ := HQ.out.apart HB.out (.bool m) (.slice B4 (Nt.digs (s2 / s3)).length k4) (.slice (some ⟨w5.heap.size, 0, none⟩) 1 1)
    have hE := below_three (g := w.heap.size + 1) HL.out.bel (by omega) (.bool m) (.slice B4 (Nt.digs (s2 / s3)).length k4) (.slice (some ⟨w5.heap.size, 0, none⟩) 1 1)
    refine bodyPost_ret (v := .agg #[.bool m, .slice B4 (Nt.digs (s2 / s3)).length k4, .slice (some ⟨w5.heap.size, 0, none⟩) 1 1]) (by simp only [results, Tryz.results192]; simp [go_sem, q0, q1, q2]) rfl ?_
    have hz : (((w5.setCell ⟨w.heap.size + 1, 0, none⟩ (.bool m)).setCell ⟨w.heap.size + 1, 1, none⟩ (.slice B4 (Nt.digs (s2 / s3)).length k4)).setCell ⟨w.heap.size + 1, 2, none⟩ (.slice (some ⟨w5.heap.size, 0, none⟩) 1 1)).heap.size = w5.heap.size := by simp [World.setCell]
    obtain ⟨X, hX⟩ : ∃ X, X = (((w5.setCell ⟨w.heap.size + 1, 0, none⟩ (.bool m)).setCell ⟨w.heap.size + 1, 1, none⟩ (.slice B4 (Nt.digs (s2 / s3)).length k4)).setCell ⟨w.heap.size + 1, 2, none⟩ (.slice (some ⟨w5.heap.size, 0, none⟩) 1 1)) := ⟨_, rfl⟩
    rw [← hX] at hQ hE hz ⊢
    have hv := nv_lit X 1 (by decide) (by decide) 1 rfl
    rw [hz] at hv
    refine ⟨B4, k4, some ⟨w5.heap.size, 0, none⟩, 1, by rw [digs_one]; rfl, hQ.below ((Below.refl _ X).alloc (Nat.le_refl _) _), ?_, hE.alloc (by have := HL.out.bel.size; omega) _⟩
    rw [digs_one] at hv ⊢
    exact hv
end Go.Proofs.YtmmlcponmdalmaaGreatDoor

namespace Go.Proofs.YtmmlcponmdalmaaGreatDoor
open Go.RowKit

/-- scaled, by a power of ten downward, of a whole number. -/
theorem scaled_d (m : Bool) (q p : Nat) (A1 : Option Addr) (c1 : Nat) (A2 : Option Addr) (c2 : Nat) (w : World) (h1 : Nv w (.slice A1 (Nt.digs q).length c1) (Nt.digs q)) (h2 : Nv w (.slice A2 (Nt.digs 1).length c2) (Nt.digs 1)) (hp : p ≤ 900) (hq : (Nt.digs q).length ≤ 400000) :
    Calls Tryz.prog 191 #[.agg #[.bool m, .slice A1 (Nt.digs q).length c1, .slice A2 (Nt.digs 1).length c2], .int .i64 (-(p : Int))] w fun e w' => ∃ B k B' k', e = .returned (.agg #[.bool m, .slice B (Nt.digs q).length k, .slice B' (Nt.digs (10 ^ p)).length k']) ∧ Nv w' (.slice B (Nt.digs q).length k) (Nt.digs q) ∧ Nv w' (.slice B' (Nt.digs (10 ^ p)).length k') (Nt.digs (10 ^ p)) ∧ Below w.heap.size w w' := by
  cases p with
  | zero =>
    have h := scaled_p m q 1 0 A1 c1 A2 c2 w h1 (by omega) hq
    rw [Nat.pow_zero, Nat.mul_one] at h
    refine h.mono ?_
    rintro e w' ⟨B, k, rfl, hv, hb⟩
    exact ⟨B, k, A2, c2, rfl, hv, h2.below hb, hb⟩
  | succ p =>
    have h := scaled_m m q 1 p A1 c1 A2 c2 w h2 (by omega) (Nat.le_trans (digs_one_le (by decide)) (by decide))
    rw [Nat.one_mul] at h
    refine h.mono ?_
    rintro e w' ⟨B, k, rfl, hv, hb⟩
    exact ⟨A1, c1, B, k, rfl, h1.below hb, hv, hb⟩

end Go.Proofs.YtmmlcponmdalmaaGreatDoor

namespace Go.Proofs.YtmmlcponmdalmaaGreatDoor
open Go.RowKit
namespace Nt
def pad (p : Nat) (l : List UInt8) : List UInt8 := List.replicate (p + 1 - l.length) 48 ++ l
def dotted (p : Nat) (P : List UInt8) : List UInt8 := if p = 0 then P else P.take (P.length - p) ++ 46 :: P.drop (P.length - p)
/-- The text of q units of 10^-p. -/
def decT (m : Bool) (q p : Nat) : List UInt8 := sgn (m && decide (q ≠ 0)) ++ dotted p (pad p (Lib.decDigits q))
theorem pad_len (p : Nat) (l : List UInt8) : p + 1 ≤ (pad p l).length := by
  unfold pad
  rw [List.length_append, List.length_replicate]
  omega
end Nt
theorem ba_len' (s : ByteArray) : s.data.toList.length = s.size := rfl

set_option maxRecDepth 100000 in
set_option maxHeartbeats 4000000 in
theorem decimal_any (m : Bool) (q p : Nat) (A1 : Option Addr) (c1 : Nat) (v3 : Value) (w : World) (h : Nv w (.slice A1 (Nt.digs q).length c1) (Nt.digs q)) (hp : p ≤ 1000) (hl : (Lib.decDigits q).length ≤ 3000) (htab : Lib.TabIs Tryz.prog w "internal/strconv.uint64pow10" .u64 Lib.pow10Tab) :
    Calls Tryz.prog 53 #[.agg #[.bool m, .slice A1 (Nt.digs q).length c1, v3], .int .i64 (p : Int)] w fun e w' => ∃ t : ByteArray, e = .returned (.string t) ∧ t.data.toList = Nt.decT m q p ∧ Below w.heap.size w w' := by
  have HB0 := Lib.hid ((Below.refl _ w).alloc (Nat.le_refl _) (.cells #[.bool m, .slice A1 (Nt.digs q).length c1, v3] 89))
  have HT := Lib.hid (show ∀ W, Below w.heap.size w W → Lib.TabIs Tryz.prog W "internal/strconv.uint64pow10" .u64 Lib.pow10Tab from Lib.tabBelow_of_tabIs htab)
  have HN := Lib.hid h
  have HTX := Lib.hid fun W (hW : Below w.heap.size w W) (h : Nv W (.slice A1 (Nt.digs q).length c1) (Nt.digs q)) => text_s (.slice A1 (Nt.digs q).length c1) q W h (HT.out W hW)
  have HRP := Lib.hid (show ∀ (n : Nat) (z : Int) W, z = (n : Int) → n ≤ 1000 → Calls Tryz.prog 108 #[.string ⟨#[48]⟩, .int .i64 z] W fun e w' => ∃ t : ByteArray, e = .returned (.string t) ∧ t.data.toList = List.replicate n 48 ∧ Below W.heap.size W w' from fun n z W e hn => by
    subst e
    refine (Tryz.strings_Repeat ⟨#[48]⟩ n W (by omega) (by show 1 * n ≤ _; omega)).mono ?_
    rintro e w' ⟨rfl, hb⟩
    exact ⟨_, rfl, by rw [← repeatL_one], hb⟩)
  have HD := Lib.hid (show Nt.decT m q p = Nt.sgn (m && decide (q ≠ 0)) ++ Nt.dotted p (Nt.pad p (Lib.decDigits q)) from rfl)
  have hl1 : 1 ≤ (Lib.decDigits q).length := by
    have : (Lib.decDigits q).length ≠ 0 := fun e => Nt.dd_ne q (List.eq_nil_of_length_eq_zero e)
    omega
  clear h htab
  generalize hD : Lib.decDigits q = D at *
  have hp' : (p : Int) ≤ 1000 := by omega
  have hpl := Nt.pad_len p D
  by_cases hpd : p + 1 ≤ D.length
  · go_enter Tryz.func53, Tryz.ntmps53
    go_upto_region 3 with (first
      | (go_at_call 109; (with_reducible refine (HTX.out _ HB0.out (HN.out.below HB0.out)).mono ?_); rintro e w1 ⟨t0, rfl, ht, hb⟩; have lt0 : t0.size = D.length := (by rw [← ht]; rfl); have b1 : D.length ≤ (t0.size : Int) := (by omega); have b2 : (t0.size : Int) ≤ D.length := (by omega); have HT0 := Lib.hid ht; have HLT := Lib.hid lt0; have HB1 := Lib.hid (below_tr HB0.out hb); have hbk := ((Blk.new w 89 #[.bool m, .slice A1 (Nt.digs q).length c1, v3]).later hb); have HBK := Lib.hid hbk; clear ht hb lt0 hbk)
      | (go_at_call 108; (with_reducible refine (HRP.out (0) _ _ ?e1 ?e2).mono ?_); (case e1 => omega); (case e2 => omega); rintro e w2 ⟨t1, rfl, ht, hb⟩; have HT1 := Lib.hid ht; have lt1 : t1.size = 0 := (by rw [← ba_len', ht, List.length_replicate]); have b3 : (t1.size : Int) ≤ 1000 := (by omega); have HLT1 := Lib.hid lt1; have HB2 := Lib.hid (HB1.out.trans (hb.mono HB1.out.size)); have hbk := HBK.out.later hb; obtain ⟨x0, x1, -, -, -, -⟩ := hbk.three; clear ht hb hbk lt1))
    obtain ⟨s1, hs1⟩ : ∃ s1, s1 = t1 ++ t0 := ⟨_, rfl⟩
    rw [← hs1]
    have hsl : s1.data.toList = Nt.pad p D := by
      rw [hs1, ByteArray.toList_data_append, HT0.out, HT1.out, Nt.pad, show p + 1 - D.length = 0 from by omega]
    have hss : s1.size = (Nt.pad p D).length := by rw [← hsl]; rfl
    have HSL := Lib.hid hsl
    have hs0 : (p : Int) + 1 ≤ s1.size := by omega
    have hs9 : (s1.size : Int) ≤ 5000 := by
      have h1 := HLT.out
      have h2 := HLT1.out
      rw [hs1, ByteArray.size_append]
      omega
    have HSS := Lib.hid hss
    clear hs1 hsl hss b1 b2 b3
    have hz : (q = 0 ∧ (((Nt.digs q).length : Int) == 0) = true) ∨ (q ≠ 0 ∧ (((Nt.digs q).length : Int) == 0) = false) := by
      rcases Nat.eq_zero_or_pos q with h0 | h0
      · subst h0; exact .inl ⟨rfl, by rw [Nt.digs_zero]; rfl⟩
      · exact .inr ⟨by omega, by rw [Nt.digs_pos (by omega)]; simp; omega⟩
    by_cases hp0 : p = 0
    · subst hp0
      have HDT := Lib.hid (show Nt.dotted 0 (Nt.pad 0 D) = s1.data.toList from by rw [HSL.out]; rfl)
      rcases hz with ⟨hq0, hz⟩ | ⟨hq0, hz⟩ <;> cases m
      all_goals
        have HQ0 := Lib.hid hq0
        clear hq0 hpd hpl
        go_wp2_with (go_at_call 49; refine (zero_any _ _ _ _).mono ?_; rintro e w0 ⟨rfl, rfl⟩)
        go_ret
        exact ⟨_, rfl, by rw [HD.out, HDT.out]; simp [Nt.sgn, HQ0.out], HB2.out⟩
    · have HDT := Lib.hid (show Nt.dotted p (Nt.pad p D) = (s1.extract 0 (s1.size - p)).data.toList ++ 46 :: (s1.extract (s1.size - p) s1.size).data.toList from by
        rw [Nt.dotted, if_neg hp0, Lib.extract_data, Lib.extract_data, HSL.out, HSS.out]
        simp
        exact (List.take_of_length_le (by simp)).symm)
      have g1 : (0 : Int) < p := by omega
      have g2 : (0 : Int) ≤ (s1.size : Int) - p := by omega
      have g3 : ((s1.size : Int) - p) ≤ s1.size := by omega
      have g4 : ((s1.size : Int) - p).toNat = s1.size - p := by omega
      have g5 : IntKind.i64.wrap ((s1.size : Int) - p) = (s1.size : Int) - p := IntWalk.i64_in _ (by omega)
      have HG := Lib.hid g5
      have HG4 := Lib.hid g4
      have g6 : (s1.extract 0 (s1.size - p)).size = s1.size - p := by rw [ByteArray.size_extract]; omega
      have g7 : (s1.extract (s1.size - p) s1.size).size = p := by rw [ByteArray.size_extract]; omega
      have HG6 := Lib.hid g6
      have HG7 := Lib.hid g7
      clear g4 g5 g6 g7 hpd hpl
      go_upto_region 4 with fail
      have g5 := HG.out
      have g4 := HG4.out
      go_quiet (fail)
      clear g4 g5
      obtain ⟨s2, hs2⟩ : ∃ s2, s2 = s1.extract 0 (s1.size - p) ++ ⟨#[46]⟩ ++ s1.extract (s1.size - p) s1.size := ⟨_, rfl⟩
      rw [← hs2]
      have hl2 : s2.data.toList = Nt.dotted p (Nt.pad p D) := by
        rw [HDT.out, hs2, ByteArray.toList_data_append, ByteArray.toList_data_append]
        simp
      have hs3 : (s2.size : Int) ≤ 6000 := by
        have h1 := HG6.out
        have h2 := HG7.out
        rw [hs2, ByteArray.size_append, ByteArray.size_append, h1, h2]
        have : (⟨#[46]⟩ : ByteArray).size = 1 := rfl
        omega
      have HL2 := Lib.hid hl2
      clear hs2 hl2
      rcases hz with ⟨hq0, hz⟩ | ⟨hq0, hz⟩ <;> cases m
      all_goals
        have HQ0 := Lib.hid hq0
        clear hq0
        go_wp2_with (go_at_call 49; refine (zero_any _ _ _ _).mono ?_; rintro e w0 ⟨rfl, rfl⟩)
        go_ret
        exact ⟨_, rfl, by rw [HD.out]; simp [Nt.sgn, HQ0.out, HL2.out], below_drewN HB2.out _⟩
  · go_enter Tryz.func53, Tryz.ntmps53
    go_upto_region 3 with (first
      | (go_at_call 109; (with_reducible refine (HTX.out _ HB0.out (HN.out.below HB0.out)).mono ?_); rintro e w1 ⟨t0, rfl, ht, hb⟩; have lt0 : t0.size = D.length := (by rw [← ht]; rfl); have b1 : D.length ≤ (t0.size : Int) := (by omega); have b2 : (t0.size : Int) ≤ D.length := (by omega); have HT0 := Lib.hid ht; have HLT := Lib.hid lt0; have HB1 := Lib.hid (below_tr HB0.out hb); have hbk := ((Blk.new w 89 #[.bool m, .slice A1 (Nt.digs q).length c1, v3]).later hb); have HBK := Lib.hid hbk; clear ht hb lt0 hbk)
      | (go_at_call 108; (with_reducible refine (HRP.out (p + 1 - D.length) _ _ ?e1 ?e2).mono ?_); (case e1 => omega); (case e2 => omega); rintro e w2 ⟨t1, rfl, ht, hb⟩; have HT1 := Lib.hid ht; have lt1 : t1.size = p + 1 - D.length := (by rw [← ba_len', ht, List.length_replicate]); have b3 : (t1.size : Int) ≤ 1000 := (by omega); have HLT1 := Lib.hid lt1; have HB2 := Lib.hid (HB1.out.trans (hb.mono HB1.out.size)); have hbk := HBK.out.later hb; obtain ⟨x0, x1, -, -, -, -⟩ := hbk.three; clear ht hb hbk lt1))
    obtain ⟨s1, hs1⟩ : ∃ s1, s1 = t1 ++ t0 := ⟨_, rfl⟩
    rw [← hs1]
    have hsl : s1.data.toList = Nt.pad p D := by
      rw [hs1, ByteArray.toList_data_append, HT0.out, HT1.out, Nt.pad, show p + 1 - D.length = p + 1 - D.length from by omega]
    have hss : s1.size = (Nt.pad p D).length := by rw [← hsl]; rfl
    have HSL := Lib.hid hsl
    have hs0 : (p : Int) + 1 ≤ s1.size := by omega
    have hs9 : (s1.size : Int) ≤ 5000 := by
      have h1 := HLT.out
      have h2 := HLT1.out
      rw [hs1, ByteArray.size_append]
      omega
    have HSS := Lib.hid hss
    clear hs1 hsl hss b1 b2 b3
    have hz : (q = 0 ∧ (((Nt.digs q).length : Int) == 0) = true) ∨ (q ≠ 0 ∧ (((Nt.digs q).length : Int) == 0) = false) := by
      rcases Nat.eq_zero_or_pos q with h0 | h0
      · subst h0; exact .inl ⟨rfl, by rw [Nt.digs_zero]; rfl⟩
      · exact .inr ⟨by omega, by rw [Nt.digs_pos (by omega)]; simp; omega⟩
    by_cases hp0 : p = 0
    · subst hp0
      have HDT := Lib.hid (show Nt.dotted 0 (Nt.pad 0 D) = s1.data.toList from by rw [HSL.out]; rfl)
      rcases hz with ⟨hq0, hz⟩ | ⟨hq0, hz⟩ <;> cases m
      all_goals
        have HQ0 := Lib.hid hq0
        clear hq0 hpd hpl
        go_wp2_with (go_at_call 49; refine (zero_any _ _ _ _).mono ?_; rintro e w0 ⟨rfl, rfl⟩)
        go_ret
        exact ⟨_, rfl, by rw [HD.out, HDT.out]; simp [Nt.sgn, HQ0.out], HB2.out⟩
    · have HDT := Lib.hid (show Nt.dotted p (Nt.pad p D) = (s1.extract 0 (s1.size - p)).data.toList ++ 46 :: (s1.extract (s1.size - p) s1.size).data.toList from by
        rw [Nt.dotted, if_neg hp0, Lib.extract_data, Lib.extract_data, HSL.out, HSS.out]
        simp
        exact (List.take_of_length_le (by simp)).symm)
      have g1 : (0 : Int) < p := by omega
      have g2 : (0 : Int) ≤ (s1.size : Int) - p := by omega
      have g3 : ((s1.size : Int) - p) ≤ s1.size := by omega
      have g4 : ((s1.size : Int) - p).toNat = s1.size - p := by omega
      have g5 : IntKind.i64.wrap ((s1.size : Int) - p) = (s1.size : Int) - p := IntWalk.i64_in _ (by omega)
      have HG := Lib.hid g5
      have HG4 := Lib.hid g4
      have g6 : (s1.extract 0 (s1.size - p)).size = s1.size - p := by rw [ByteArray.size_extract]; omega
      have g7 : (s1.extract (s1.size - p) s1.size).size = p := by rw [ByteArray.size_extract]; omega
      have HG6 := Lib.hid g6
      have HG7 := Lib.hid g7
      clear g4 g5 g6 g7 hpd hpl
      go_upto_region 4 with fail
      have g5 := HG.out
      have g4 := HG4.out
      go_quiet (fail)
      clear g4 g5
      obtain ⟨s2, hs2⟩ : ∃ s2, s2 = s1.extract 0 (s1.size - p) ++ ⟨#[46]⟩ ++ s1.extract (s1.size - p) s1.size := ⟨_, rfl⟩
      rw [← hs2]
      have hl2 : s2.data.toList = Nt.dotted p (Nt.pad p D) := by
        rw [HDT.out, hs2, ByteArray.toList_data_append, ByteArray.toList_data_append]
        simp
      have hs3 : (s2.size : Int) ≤ 6000 := by
        have h1 := HG6.out
        have h2 := HG7.out
        rw [hs2, ByteArray.size_append, ByteArray.size_append, h1, h2]
        have : (⟨#[46]⟩ : ByteArray).size = 1 := rfl
        omega
      have HL2 := Lib.hid hl2
      clear hs2 hl2
      rcases hz with ⟨hq0, hz⟩ | ⟨hq0, hz⟩ <;> cases m
      all_goals
        have HQ0 := Lib.hid hq0
        clear hq0
        go_wp2_with (go_at_call 49; refine (zero_any _ _ _ _).mono ?_; rintro e w0 ⟨rfl, rfl⟩)
        go_ret
        exact ⟨_, rfl, by rw [HD.out]; simp [Nt.sgn, HQ0.out, HL2.out], below_drewN HB2.out _⟩
end Go.Proofs.YtmmlcponmdalmaaGreatDoor

namespace Go.Proofs.YtmmlcponmdalmaaGreatDoor
open Go.RowKit
namespace Nt
theorem nonneg_m {m : Bool} {n e d u : Nat} (hn : n = 0 → m = false) (hd : d ≠ 0) (h : zi m n * d = (u : Int) * e) : m = false ∧ n * d = u * e := by
  cases m with
  | false => exact ⟨rfl, by
      have h' : (n : Int) * d = (u : Int) * e := h
      exact_mod_cast h'⟩
  | true =>
    exfalso
    have h0 : n ≠ 0 := fun e => by have := hn e; cases this
    have h1 : (0 : Int) < (n : Int) * d := Int.mul_pos (by omega) (by omega)
    have h2 : (0 : Int) ≤ (u : Int) * e := Int.mul_nonneg (by omega) (by omega)
    simp only [zi, if_true] at h
    rw [Int.neg_mul] at h
    omega
theorem red_dvd {n e d u : Nat} (hg : Nat.gcd n e = 1) (h : n * d = u * e) (hd : d ≠ 0) : (n = 0 ∨ n ≤ u) ∧ e ≤ d := by
  have c : Nat.Coprime n e := hg
  have h1 : n ∣ u := c.dvd_of_dvd_mul_right ⟨d, h.symm⟩
  have h2 : e ∣ d := (Nat.Coprime.symm c).dvd_of_dvd_mul_left ⟨u, by rw [h, Nat.mul_comm]⟩
  refine ⟨?_, Nat.le_of_dvd (Nat.pos_of_ne_zero hd) h2⟩
  rcases Nat.eq_zero_or_pos u with rfl | hu
  · left
    rw [Nat.zero_mul] at h
    rcases Nat.mul_eq_zero.1 h with h | h
    · exact h
    · exact absurd h hd
  · exact .inr (Nat.le_of_dvd hu h1)
/-- r is the root of the fraction u / d, to p places. -/
def RootOf (u d p r : Nat) : Prop := r * r * d ≤ u * 10 ^ (2 * p) ∧ u * 10 ^ (2 * p) < (r + 1) * (r + 1) * d
theorem RootOf.of {n e d u p r : Nat} (he : e ≠ 0) (hd : d ≠ 0) (h : n * d = u * e) (hr : IsRoot (n * 10 ^ (2 * p) / e) r) : RootOf u d p r := by
  obtain ⟨h1, h2⟩ := hr
  unfold RootOf
  obtain ⟨E, hE⟩ : ∃ E, E = 10 ^ (2 * p) := ⟨_, rfl⟩
  rw [← hE] at h1 h2 ⊢
  have he' : 0 < e := Nat.pos_of_ne_zero he
  have hd' : 0 < d := Nat.pos_of_ne_zero hd
  have h3 : r * r * e ≤ n * E := (Nat.le_div_iff_mul_le he').1 h1
  have h4 : n * E < (r + 1) * (r + 1) * e := (Nat.div_lt_iff_lt_mul he').1 h2
  constructor
  · refine Nat.le_of_mul_le_mul_right ?_ he'
    have := Nat.mul_le_mul_right d h3
    have e1 : n * E * d = u * E * e := by rw [Nat.mul_right_comm, h, Nat.mul_right_comm]
    rw [e1, Nat.mul_right_comm] at this
    exact this
  · refine Nat.lt_of_mul_lt_mul_right (a := e) ?_
    have := Nat.mul_lt_mul_of_pos_right h4 hd'
    have e1 : n * E * d = u * E * e := by rw [Nat.mul_right_comm, h, Nat.mul_right_comm]
    rw [e1, Nat.mul_right_comm ((r + 1) * (r + 1))] at this
    exact this
theorem RootOf.sq {z p r : Nat} (h : RootOf (z * z) (10 ^ p * 10 ^ p) p r) : r = z := by
  obtain ⟨h1, h2⟩ := h
  have e : (10 : Nat) ^ p * 10 ^ p = 10 ^ (2 * p) := by rw [← Nat.pow_add, Nat.two_mul]
  rw [e] at h1 h2
  have hp : 0 < (10 : Nat) ^ (2 * p) := Nat.pow_pos (by decide)
  have h3 := Nat.le_of_mul_le_mul_right h1 hp
  have h4 := Nat.lt_of_mul_lt_mul_right h2
  exact (IsRoot.uniq (a := z * z) ⟨h3, h4⟩ (IsRoot.sq z))
theorem RootOf.mono {u d v c p r s : Nat} (hd : d ≠ 0) (hc : c ≠ 0) (h : RootOf u d p r) (k : RootOf v c p s) (hle : u * c ≤ v * d) : r ≤ s := by
  obtain ⟨h1, -⟩ := h
  obtain ⟨-, k2⟩ := k
  obtain ⟨E, hE⟩ : ∃ E, E = 10 ^ (2 * p) := ⟨_, rfl⟩
  rw [← hE] at h1 k2
  have hd' : 0 < d := Nat.pos_of_ne_zero hd
  have hc' : 0 < c := Nat.pos_of_ne_zero hc
  have a1 := Nat.mul_le_mul_right c h1
  have a2 := Nat.mul_lt_mul_of_pos_right k2 hd'
  have a3 := Nat.mul_le_mul_right E hle
  have e1 : u * E * c = u * c * E := Nat.mul_right_comm ..
  have e2 : v * E * d = v * d * E := Nat.mul_right_comm ..
  have e3 : (s + 1) * (s + 1) * c * d = (s + 1) * (s + 1) * d * c := Nat.mul_right_comm ..
  rw [e1] at a1
  rw [e2, e3] at a2
  have a4 : r * r * d * c < (s + 1) * (s + 1) * d * c := by omega
  have a5 := Nat.lt_of_mul_lt_mul_right (Nat.lt_of_mul_lt_mul_right a4)
  rcases Nat.lt_or_ge r (s + 1) with hx | hx
  · omega
  · exact absurd (Nat.mul_le_mul hx hx) (by omega)
end Nt
theorem nat_abs (u : Nat) : (u : Int).natAbs = u := Int.natAbs_natCast u
theorem ten_le {p k : Nat} (h : p ≤ k) : 10 ^ p ≤ 10 ^ k := Nat.pow_le_pow_right (by decide) h
theorem lt_B {n k i : Nat} (h : n ≤ 10 ^ k) (hk : k < 9 * i) : n < Nt.B ^ i := by
  have e : Nt.B ^ i = 10 ^ (9 * i) := by rw [Nat.pow_mul] <;> rfl
  rw [e]
  exact Nat.lt_of_le_of_lt h (Nat.pow_lt_pow_right (by decide) hk)
end Go.Proofs.YtmmlcponmdalmaaGreatDoor

namespace Go.Proofs.YtmmlcponmdalmaaGreatDoor
open Go.RowKit
namespace Nt
theorem digs_is_one {n : Nat} : digs n = [1] ↔ n = 1 := by
  constructor
  · intro h; have := val_digs n; rw [h] at this; simpa [val] using this.symm
  · rintro rfl; exact Go.Proofs.YtmmlcponmdalmaaGreatDoor.digs_one
/-- One step of the search for places. -/
def nextD (g : Nat) : Nat := if g % 10 = 0 then g / 10 else g / Nat.gcd g 10
theorem nextD_spec {g : Nat} (_hg : 0 < g) (h : ¬ (g % 10 ≠ 0 ∧ Nat.gcd g 10 = 1)) : ∃ c, c ∣ 10 ∧ 2 ≤ c ∧ nextD g * c = g := by
  unfold nextD
  by_cases h0 : g % 10 = 0
  · rw [if_pos h0]
    exact ⟨10, Nat.dvd_refl _, by decide, by omega⟩
  · rw [if_neg h0]
    have h1 : Nat.gcd g 10 ≠ 1 := fun e => h ⟨h0, e⟩
    have h2 : 0 < Nat.gcd g 10 := Nat.gcd_pos_of_pos_right _ (by decide)
    exact ⟨Nat.gcd g 10, Nat.gcd_dvd_right _ _, by omega, Nat.div_mul_cancel (Nat.gcd_dvd_left _ _)⟩
theorem nextD_pow {g i : Nat} (h1 : g ≠ 1) (h : g ∣ 10 ^ i) : ∃ j, i = j + 1 ∧ nextD g ∣ 10 ^ j := by
  cases i with
  | zero => exact absurd (Nat.dvd_one.1 (by simpa using h)) h1
  | succ j =>
    refine ⟨j, rfl, ?_⟩
    unfold nextD
    have hten : ∀ k, (10 : Nat) ^ k = 2 ^ k * 5 ^ k := fun k => Nat.mul_pow 2 5 k
    by_cases h0 : g % 10 = 0
    · rw [if_pos h0]
      have e : g / 10 * 10 = g := by omega
      rw [← e, Nat.pow_succ] at h
      exact Nat.dvd_of_mul_dvd_mul_right (by decide) h
    · rw [if_neg h0]
      have hd := Nat.gcd_dvd_left g 10
      have hc := Nat.gcd_dvd_right g 10
      have hle := Nat.le_of_dvd (by decide) hc
      obtain ⟨c, hcc⟩ : ∃ c, c = Nat.gcd g 10 := ⟨_, rfl⟩
      have hg : ∀ x, x ∣ g → x ∣ 10 → x ∣ c := fun x hx hy => by rw [hcc]; exact Nat.dvd_gcd hx hy
      rw [← hcc] at hd hc hle ⊢
      have hq : g / c * c = g := Nat.div_mul_cancel hd
      have h3 : c = 1 ∨ c = 2 ∨ c = 5 ∨ c = 10 := by
        rcases (show c = 0 ∨ c = 1 ∨ c = 2 ∨ c = 3 ∨ c = 4 ∨ c = 5 ∨ c = 6 ∨ c = 7 ∨ c = 8 ∨ c = 9 ∨ c = 10 by omega) with e | e | e | e | e | e | e | e | e | e | e <;> subst e <;> first | (exfalso; revert hc; decide) | simp
      rcases h3 with e | e | e | e
      · subst e
        have hcop : Nat.Coprime g (10 ^ (j + 1)) := Nat.Coprime.pow_right (j + 1) hcc.symm
        have : g ∣ 1 := by
          have hh : Nat.gcd g (10 ^ (j + 1)) = 1 := hcop
          rw [← hh]
          exact Nat.dvd_gcd (Nat.dvd_refl _) h
        exact absurd (Nat.dvd_one.1 this) h1
      · subst e
        have hcop : Nat.Coprime g 5 := by
          have a1 := hg (Nat.gcd g 5) (Nat.gcd_dvd_left _ _) (Nat.dvd_trans (Nat.gcd_dvd_right _ _) (by decide))
          have a2 := Nat.gcd_dvd_right g 5
          have a3 : Nat.gcd g 5 ∣ Nat.gcd 2 5 := Nat.dvd_gcd a1 a2
          exact Nat.dvd_one.1 a3
        have h2 : g ∣ 2 ^ (j + 1) := (Nat.Coprime.pow_right (j + 1) hcop).dvd_of_dvd_mul_right (by rw [← hten]; exact h)
        rw [← hq, Nat.pow_succ] at h2
        rw [hten]
        exact Nat.dvd_trans (Nat.dvd_of_mul_dvd_mul_right (by decide) h2) (Nat.dvd_mul_right _ _)
      · subst e
        have hcop : Nat.Coprime g 2 := by
          have a1 := hg (Nat.gcd g 2) (Nat.gcd_dvd_left _ _) (Nat.dvd_trans (Nat.gcd_dvd_right _ _) (by decide))
          have a2 := Nat.gcd_dvd_right g 2
          have a3 : Nat.gcd g 2 ∣ Nat.gcd 5 2 := Nat.dvd_gcd a1 a2
          exact Nat.dvd_one.1 a3
        have h2 : g ∣ 5 ^ (j + 1) := (Nat.Coprime.pow_right (j + 1) hcop).dvd_of_dvd_mul_left (by rw [← hten]; exact h)
        rw [← hq, Nat.pow_succ] at h2
        rw [hten]
        exact Nat.dvd_trans (Nat.dvd_of_mul_dvd_mul_right (by decide) h2) (Nat.dvd_mul_left _ _)
      · exfalso
        subst e
        omega
theorem step_dvd {d g k g' c : Nat} (h : d ∣ g * 10 ^ k) (hc : c ∣ 10) (e : g' * c = g) : d ∣ g' * 10 ^ (k + 1) := by
  obtain ⟨x, hx⟩ := hc
  refine Nat.dvd_trans h ⟨x, ?_⟩
  rw [← e, Nat.pow_succ, hx]
  grind
end Nt
theorem one_yes (v : Value) (n : Nat) (w : World) (h : Nv w v (Nt.digs n)) (e : n = 1) :
    Calls Tryz.prog 47 #[v] w fun e w' => e = .returned (.bool true) ∧ w = w' := by
  have := one_any v _ w h (Nt.digs_canon n).1
  rwa [decide_eq_true (Nt.digs_is_one.2 e)] at this
theorem one_no (v : Value) (n : Nat) (w : World) (h : Nv w v (Nt.digs n)) (e : n ≠ 1) :
    Calls Tryz.prog 47 #[v] w fun e w' => e = .returned (.bool false) ∧ w = w' := by
  have := one_any v _ w h (Nt.digs_canon n).1
  rwa [decide_eq_false (fun h => e (Nt.digs_is_one.1 h))] at this
theorem common_o (va vb : Value) (a b : Nat) (w : World) (ha : Nv w va (Nt.digs a)) (hb : Nv w vb (Nt.digs b)) (sa : (Nt.digs a).length ≤ 900000) (sb : (Nt.digs b).length ≤ 900000) :
    Calls Tryz.prog 50 #[va, vb] w fun e w' => ∃ A c, e = .returned (.slice A (Nt.digs (Nat.gcd a b)).length c) ∧ Nv w' (.slice A (Nt.digs (Nat.gcd a b)).length c) (Nt.digs (Nat.gcd a b)) ∧ Below w.heap.size w w' := by
  refine (common_any va vb a b w ha hb sa sb).mono ?_
  rintro e w' ⟨v, rfl, hv, hb⟩
  obtain ⟨A, c, rfl, _⟩ := hv.ex
  exact ⟨A, c, rfl, hv, hb⟩

theorem below_al {W W' : World} {o : Obj} (hb : Below (W.alloc o).heap.size (W.alloc o) W') : Below W.heap.size W W' := ((Below.refl _ W).alloc (Nat.le_refl _) o).trans (hb.mono (by simp))

/-- What Shortest answers. -/
def ShortRet (m : Bool) (n d : Nat) (w : World) (e : Ending) (w' : World) : Prop :=
  ((e = .returned (.tuple #[.string ⟨#[]⟩, .bool false, .int .i64 0]) ∧ ∀ j, ¬ d ∣ 10 ^ j) ∨ ∃ (t : ByteArray) (q k : Nat), e = .returned (.tuple #[.string t, .bool true, .int .i64 0]) ∧ t.data.toList = Nt.decT m q k ∧ q * d = n * 10 ^ k ∧ 2 ^ k ≤ d ∧ d ∣ 10 ^ k ∧ ∀ j, d ∣ 10 ^ j → k ≤ j) ∧ Below w.heap.size w w'

set_option maxRecDepth 100000 in
set_option maxHeartbeats 8000000 in
theorem shortest_w (a1 a2 : ByteArray) (m : Bool) (n d : Nat) (w : World) (h1 : a1.size ≤ 9223372036854775807) (h2 : a2.size ≤ 9223372036854775807) (hr : Nt.Rd a1.data.toList a2.data.toList m n d)
    (E : Nat) (hE : E ≤ 300) (s1 : n < 10 ^ E) (s2 : d < 10 ^ E) (htab : Lib.TabIs Tryz.prog w "internal/strconv.uint64pow10" .u64 Lib.pow10Tab) :
    Calls Tryz.prog 17 #[.agg #[.string a1, .string a2]] w (ShortRet m n d w) := by
  have HRD := Lib.hid fun W => read_ok a1 a2 m n d W h1 h2 hr
  have hd0 := hr.d0
  have HS2 := Lib.hid s2
  have HS1 := Lib.hid s1
  have hn1 : (Nt.digs n).length ≤ 40 := digs_pow (lt_B (k := E) (Nat.le_of_lt s1) (by omega))
  have hn2 : (Nt.digs d).length ≤ 40 := digs_pow (lt_B (k := E) (Nat.le_of_lt s2) (by omega))
  have HT := Lib.hid (show ∀ W, Below w.heap.size w W → Lib.TabIs Tryz.prog W "internal/strconv.uint64pow10" .u64 Lib.pow10Tab from Lib.tabBelow_of_tabIs htab)
  clear hr h1 h2 htab s1 s2
  have HL0 := Lib.hid ((Loc.start w).alloc' rfl 24 #[.string a1, .string a2])
  have HD0 := Lib.hid hd0
  go_enter Tryz.func17, Tryz.ntmps17
  go_wp2_with (go_at_call 46; (with_reducible refine (HRD.out _).mono ?_); rintro e w1 ⟨A1, c1, A2, c2, rfl, hn, hd, hb⟩; have HL1 := Lib.hid ((HL0.out.step hb).alloc 89 #[.bool m, .slice A1 (Nt.digs n).length c1, .slice A2 (Nt.digs d).length c2]); have HN1 := Lib.hid (hn.below ((Below.refl _ w1).alloc (Nat.le_refl _) (.cells #[.bool m, .slice A1 (Nt.digs n).length c1, .slice A2 (Nt.digs d).length c2] 89))); have HD1 := Lib.hid (hd.below ((Below.refl _ w1).alloc (Nat.le_refl _) (.cells #[.bool m, .slice A1 (Nt.digs n).length c1, .slice A2 (Nt.digs d).length c2] 89))); clear hn hd hb)
  clear HRD
  go_loopg [7, 8] d (fun g s7 s8 wr => ∃ k : Nat, 0 < g ∧ s7 = .int .i64 k ∧ (∃ B c, s8 = .slice B (Nt.digs g).length c) ∧ Nv wr s8 (Nt.digs g) ∧ (Nt.digs g).length ≤ 40 ∧ Hid (d ∣ g * 10 ^ k ∧ g ∣ d ∧ ∀ j, d ∣ 10 ^ j → ∃ i, j = k + i ∧ g ∣ 10 ^ i) ∧ Hid (2 ^ k * g ≤ d) ∧ Loc w [(w1.heap.size, 89, #[.bool m, .slice A1 (Nt.digs n).length c1, .slice A2 (Nt.digs d).length c2]), (w.heap.size, 24, #[.string a1, .string a2])] wr ∧ Nv wr (.slice A1 (Nt.digs n).length c1) (Nt.digs n) ∧ Nv wr (.slice A2 (Nt.digs d).length c2) (Nt.digs d))
  case atStart => exact ⟨0, Nat.pos_of_ne_zero HD0.out, rfl, ⟨_, _, rfl⟩, HD1.out, hn2, Lib.hid ⟨by simp, Nat.dvd_refl _, fun j hj => ⟨j, by omega, hj⟩⟩, Lib.hid (by simp), HL1.out, HN1.out, HD1.out⟩
  case round =>
    obtain ⟨k, hg, rfl, ⟨B, kc, rfl⟩, r1, r2, r3, r4, r5, r6, r7⟩ := hrel
    have H1 := Lib.hid r1
    have HL := Lib.hid r5
    have HN := Lib.hid r6
    have HDD := Lib.hid r7
    have hk : k ≤ 1000 := by
      have h4 : 2 ^ k ≤ d := Nat.le_trans (Nat.le_mul_of_pos_right _ hg) r4.out
      have h5 : ∀ c, E ≤ 3 * c → k ≤ 10 * c := fun c hc => by
        have h6 : (10 : Nat) ^ E ≤ 2 ^ (10 * c) := by
          refine Nat.le_trans (Nat.pow_le_pow_right (by decide) hc) ?_
          rw [Nat.pow_mul, Nat.pow_mul]
          exact Nat.pow_le_pow_left (by decide) _
        exact (Nat.pow_le_pow_iff_right (by decide)).1 (Nat.le_trans h4 (Nat.le_trans (Nat.le_of_lt HS2.out) h6))
      exact h5 100 hE
    have hki : (k : Int) ≤ 1000 := by omega
    clear r1 r5 r6 r7 HL1 HN1 HD1 HL0
    by_cases hg1 : gk = 1
    · subst hg1
      have hdk : d ∣ 10 ^ k := by have := r3.out.1; rwa [Nat.one_mul] at this
      have HDK := Lib.hid hdk
      have HMI := Lib.hid (show ∀ j, d ∣ 10 ^ j → k ≤ j from fun j hj => by
        obtain ⟨i, e, -⟩ := r3.out.2.2 j hj
        omega)
      have h2k : 2 ^ k ≤ d := by have := r4.out; rwa [Nat.mul_one] at this
      have H2K := Lib.hid h2k
      have hqd : n * 10 ^ k / d * d = n * 10 ^ k := Nat.div_mul_cancel (Nat.dvd_trans hdk (Nat.dvd_mul_left _ _))
      have HQD := Lib.hid hqd
      have HO := Lib.hid fun (W : World) (h : Nv W (.slice B (Nt.digs 1).length kc) (Nt.digs 1)) => one_yes _ 1 W h rfl
      have HTP := Lib.hid fun W => ten_any k W (by omega)
      have hdt : (Nt.digs (10 ^ k)).length ≤ 112 := digs_ten (by omega)
      have hm1 : (Nt.digs (n * 10 ^ k)).length ≤ 152 := digs_mul_le hn1 hdt
      have HTM := Lib.hid fun (W : World) A c A' c' (h : Nv W (.slice A (Nt.digs n).length c) (Nt.digs n)) (h' : Nv W (.slice A' (Nt.digs (10 ^ k)).length c') (Nt.digs (10 ^ k))) => times_o (.slice A (Nt.digs n).length c) (.slice A' (Nt.digs (10 ^ k)).length c') n (10 ^ k) W h h' (by omega) (by omega)
      have HDV := Lib.hid fun (W : World) B k' B' k'' (h : Nv W (.slice B (Nt.digs (n * 10 ^ k)).length k') (Nt.digs (n * 10 ^ k))) (h' : Nv W (.slice B' (Nt.digs d).length k'') (Nt.digs d)) => divide_o _ _ (n * 10 ^ k) d W h h' (by omega) (by omega) HD0.out
      have hql : (Lib.decDigits (n * 10 ^ k / d)).length ≤ 3000 := by
        have h1 : n * 10 ^ k / d < 10 ^ (E + k + 1) := by
          refine Nat.lt_of_le_of_lt (Nat.div_le_self _ _) ?_
          refine Nat.lt_of_le_of_lt (Nat.mul_le_mul_right _ (Nat.le_of_lt HS1.out)) ?_
          rw [← Nat.pow_add]
          exact Nat.pow_lt_pow_right (by decide) (by omega)
        exact Nat.le_trans (Nt.dd_le h1) (by omega)
      have HDC := Lib.hid fun (W : World) (hW : Below w.heap.size w W) A c v3 (h : Nv W (.slice A (Nt.digs (n * 10 ^ k / d)).length c) (Nt.digs (n * 10 ^ k / d))) => decimal_any m (n * 10 ^ k / d) k A c v3 W h (by omega) hql (HT.out W hW)
      clear hdk h2k hqd hdt hm1 hql r3 r4 r2 hg
      obtain ⟨q, hq⟩ : ∃ q, q = n * 10 ^ k / d := ⟨_, rfl⟩
      rw [← hq] at HQD HDV HDC
      obtain ⟨T, hT⟩ : ∃ T, T = 10 ^ k := ⟨_, rfl⟩
      rw [← hT] at HTP HTM HDV
      obtain ⟨N, hN⟩ : ∃ N, N = n * T := ⟨_, rfl⟩
      rw [← hN] at HTM HDV
      clear hq hT hN
      go_upto_region 15 with (go_at_call 47; (with_reducible refine (HO.out _ H1.out).mono ?_); rintro e w3 ⟨rfl, rfl⟩)
      obtain ⟨x0, x1, x2, -, -, -⟩ := (HL.out.blk (g := w1.heap.size) (t := 89) (cs := #[.bool m, .slice A1 (Nt.digs n).length c1, .slice A2 (Nt.digs d).length c2]) (by simp)).three
      clear x0
      have HL' := Lib.hid HL.out.drew
      have HN' := Lib.hid HN.out.drew
      have HD' := Lib.hid HDD.out.drew
      clear HL HN HDD H1
      rename Hid (Nv _ (.slice A2 _ _) _) => HD
      rename Hid (Nv _ (.slice A1 _ _) _) => HN
      rename Hid (Loc _ _ _) => HL
      go_region_held3 (fun w' => w'.cell? ⟨w1.heap.size, 1, none⟩ = some (.slice A1 (Nt.digs n).length c1) ∧ w'.cell? ⟨w1.heap.size, 2, none⟩ = some (.slice A2 (Nt.digs d).length c2)) (first | exact ⟨by assumption, by assumption⟩ | exact ⟨HL.out.c1 (t := 89) (a := .bool m) (c := .slice A2 (Nt.digs d).length c2) (by simp), HL.out.c2 (t := 89) (a := .bool m) (b := .slice A1 (Nt.digs n).length c1) (by simp)⟩ | exact ⟨HL.out.drew.c1 (t := 89) (a := .bool m) (c := .slice A2 (Nt.digs d).length c2) (by simp), HL.out.drew.c2 (t := 89) (a := .bool m) (b := .slice A1 (Nt.digs n).length c1) (by simp)⟩ | fail) (first
        | (go_at_call 52; (with_reducible refine (HTP.out _).mono ?_); rintro e w4 ⟨B1, k1, rfl, hq, hb⟩; have H2 := Lib.hid hq; clear hq; (try (have hx := HN.out.below hb; clear HN; have HN := Lib.hid hx; clear hx)); (try (have hx := HD.out.below hb; clear HD; have HD := Lib.hid hx; clear hx)); have hl := HL.out.step hb; clear HL; have HL := Lib.hid hl; clear hl hb)
        | (go_at_call 51; (with_reducible refine (HTM.out _ _ _ _ _ HN.out H2.out).mono ?_); rintro e w5 ⟨B2, k2, rfl, hq, hb⟩; have H3 := Lib.hid hq; clear hq; (try (have hx := HD.out.below hb; clear HD; have HD := Lib.hid hx; clear hx)); have hl := HL.out.step hb; clear HL; have HL := Lib.hid hl; clear hl hb)
        | (go_at_call 48; (with_reducible refine (HDV.out _ _ _ _ _ H3.out HD.out).mono ?_); rintro e w6 ⟨B4, k4, B5, k5, rfl, hq, -, hb⟩; have HQ := Lib.hid hq; have hl := HL.out.step hb; clear HL; have HL := Lib.hid hl; clear hq hl hb) | fail)
      all_goals
        obtain ⟨x0, x1, x2, -, -, -⟩ := (HL.out.blk (g := w1.heap.size) (t := 89) (cs := #[.bool m, .slice A1 (Nt.digs n).length c1, .slice A2 (Nt.digs d).length c2]) (by simp)).three
        clear x1 x2
        go_wp2_with (go_at_call 53; (with_reducible refine (HDC.out _ (HL.out.alloc _ _).bel _ _ _ (HQ.out.below ((Below.refl _ _).alloc (Nat.le_refl _) _))).mono ?_); rintro e w7 ⟨t, rfl, ht, hb⟩; have HTT := Lib.hid ht; have HB := Lib.hid ((HL.out.alloc _ _).step hb).bel; clear ht hb)
        go_ret3
        exact ⟨.inr ⟨t, q, k, rfl, HTT.out, HQD.out, H2K.out, HDK.out, HMI.out⟩, HB.out⟩
    · have HO := Lib.hid fun (W : World) (h : Nv W (.slice B (Nt.digs gk).length kc) (Nt.digs gk)) => one_no _ gk W h hg1
      have HDV := Lib.hid fun (W : World) v (h : Nv W (.slice B (Nt.digs gk).length kc) (Nt.digs gk)) (h' : Nv W v (Nt.digs 10)) => divide_o _ v gk 10 W h h' (by omega) (Nat.le_trans (digs_one_le (by decide)) (by decide)) (by decide)
      have HCG := Lib.hid fun (W : World) v (h : Nv W (.slice B (Nt.digs gk).length kc) (Nt.digs gk)) (h' : Nv W v (Nt.digs 10)) => common_o _ v gk 10 W h h' (by omega) (Nat.le_trans (digs_one_le (by decide)) (by decide))
      have hgp : 0 < Nat.gcd gk 10 := Nat.gcd_pos_of_pos_right _ (by decide)
      have hgl : (Nt.digs (Nat.gcd gk 10)).length ≤ 40 := Nat.le_trans (digs_mono (Nat.le_of_dvd (by decide) (Nat.gcd_dvd_right gk 10))) (Nat.le_trans (digs_one_le (by decide)) (by decide))
      have HDG := Lib.hid fun (W : World) A c (h : Nv W (.slice B (Nt.digs gk).length kc) (Nt.digs gk)) (h' : Nv W (.slice A (Nt.digs (Nat.gcd gk 10)).length c) (Nt.digs (Nat.gcd gk 10))) => divide_o _ _ gk (Nat.gcd gk 10) W h h' (by omega) (by omega) (by omega)
      have hq1 : (Nt.digs (gk / 10)).length ≤ 40 := Nat.le_trans (digs_mono (Nat.div_le_self _ _)) r2
      have hq2 : (Nt.digs (gk / Nat.gcd gk 10)).length ≤ 40 := Nat.le_trans (digs_mono (Nat.div_le_self _ _)) r2
      have hnx : Nt.nextD gk = if gk % 10 = 0 then gk / 10 else gk / Nat.gcd gk 10 := rfl
      have HSP := Lib.hid (Nt.nextD_spec hg)
      have hst : ∀ c, c ∣ 10 → 2 ≤ c → Nt.nextD gk * c = gk → 0 < Nt.nextD gk ∧ Nt.nextD gk < gk ∧ (d ∣ Nt.nextD gk * 10 ^ (k + 1) ∧ Nt.nextD gk ∣ d ∧ ∀ j, d ∣ 10 ^ j → ∃ i, j = k + 1 + i ∧ Nt.nextD gk ∣ 10 ^ i) ∧ 2 ^ (k + 1) * Nt.nextD gk ≤ d := fun c hc h2 e => by
        have h0 : 0 < Nt.nextD gk := by
          rcases Nat.eq_zero_or_pos (Nt.nextD gk) with h | h
          · rw [h, Nat.zero_mul] at e; omega
          · exact h
        have h5 : Nt.nextD gk * 2 ≤ gk := by
          have := Nat.mul_le_mul_left (Nt.nextD gk) h2
          omega
        refine ⟨h0, by omega, ⟨Nt.step_dvd r3.out.1 hc e, Nat.dvd_trans ⟨c, e.symm⟩ r3.out.2.1, fun j hj => by
          obtain ⟨i, e, h⟩ := r3.out.2.2 j hj
          obtain ⟨i', e', h'⟩ := Nt.nextD_pow hg1 h
          exact ⟨i', by omega, h'⟩⟩, ?_⟩
        rw [Nat.pow_succ, Nat.mul_assoc, Nat.mul_comm 2]
        exact Nat.le_trans (Nat.mul_le_mul_left _ h5) r4.out
      have HST := Lib.hid hst
      have HGD := Lib.hid r3.out.2.1
      have HG1 := Lib.hid hg1
      clear hst r3 r4
      by_cases hr0 : gk % 10 = 0
      · rw [if_pos hr0] at hnx
        obtain ⟨c, h1, h2, h3⟩ := HSP.out (fun h => h.1 hr0)
        have hres := HST.out c h1 h2 h3
        rw [hnx] at hres
        obtain ⟨e1, e2, e3, e4⟩ := hres
        have E3 := Lib.hid e3
        have E4 := Lib.hid e4
        have hz : (((Nt.digs (gk % 10)).length : Int) == 0) = true := by rw [hr0, Nt.digs_zero]; rfl
        clear e3 e4 h1 h2 h3 hnx HSP HST hr0 hgp hgl hq2
        generalize gk / 10 = gn at *
        go_wp2_with (first
          | (go_at_call 47; (with_reducible refine (HO.out _ H1.out).mono ?_); rintro e w3 ⟨rfl, rfl⟩)
          | (go_at_call 48; (with_reducible refine (HDV.out _ _ (H1.out.below ((Below.refl _ _).alloc (Nat.le_refl _) _)) (nv_lit _ 10 (by decide) (by decide) 10 rfl)).mono ?_); rintro e w4 ⟨A3, c3, A4, c4, rfl, hq, -, hb⟩; replace hb := below_al hb; (have hx := HN.out.below hb; clear HN; have HN := Lib.hid hx; clear hx); (have hx := HDD.out.below hb; clear HDD; have HDD := Lib.hid hx; clear hx); (have hx := HL.out.step hb; clear HL; have HL := Lib.hid hx; clear hx); have HQ := Lib.hid hq; clear hq hb)
          | (go_at_call 49; refine (zero_any _ _ _ _).mono ?_; rintro e w0 ⟨rfl, rfl⟩))
        go_roundg gn
        case measure => exact e2
        case rel => exact ⟨k + 1, e1, by go_num, ⟨_, _, rfl⟩, HQ.out, hq1, E3, E4, HL.out, HN.out, HDD.out⟩
      · have hz : (((Nt.digs (gk % 10)).length : Int) == 0) = false := by rw [Nt.digs_pos (by omega)]; simp; omega
        by_cases hgc : Nat.gcd gk 10 = 1
        · have HO2 := Lib.hid fun (W : World) A c (h : Nv W (.slice A (Nt.digs (Nat.gcd gk 10)).length c) (Nt.digs (Nat.gcd gk 10))) => one_yes _ _ W h hgc
          have HND := Lib.hid (fun (j : Nat) (hj : d ∣ 10 ^ j) => HG1.out (Nat.dvd_one.1 (by
            have h1 : gk ∣ 10 ^ j := Nat.dvd_trans HGD.out hj
            have h2 : Nat.gcd gk (10 ^ j) = 1 := (Nat.Coprime.pow_right j (show Nat.Coprime gk 10 from hgc))
            rw [← h2]
            exact Nat.dvd_gcd (Nat.dvd_refl _) h1)))
          clear hnx HSP HST hr0 hgp hgl hq1 hq2 hgc HGD HG1
          generalize Nat.gcd gk 10 = G at *
          go_wp2_with (first
            | (go_at_call 47; first | ((with_reducible refine (HO.out _ H1.out).mono ?_); rintro e w3 ⟨rfl, rfl⟩) | ((with_reducible refine (HO2.out _ _ _ HG.out).mono ?_); rintro e w3 ⟨rfl, rfl⟩))
            | (go_at_call 48; (with_reducible refine (HDV.out _ _ (H1.out.below ((Below.refl _ _).alloc (Nat.le_refl _) _)) (nv_lit _ 10 (by decide) (by decide) 10 rfl)).mono ?_); rintro e w4 ⟨A3, c3, A4, c4, rfl, hq, -, hb⟩; replace hb := below_al hb; (have hx := H1.out.below hb; clear H1; have H1 := Lib.hid hx; clear hx); (have hx := HN.out.below hb; clear HN; have HN := Lib.hid hx; clear hx); (have hx := HDD.out.below hb; clear HDD; have HDD := Lib.hid hx; clear hx); (have hx := HL.out.step hb; clear HL; have HL := Lib.hid hx; clear hx); clear hq hb)
            | (go_at_call 49; refine (zero_any _ _ _ _).mono ?_; rintro e w0 ⟨rfl, rfl⟩)
            | (go_at_call 50; (with_reducible refine (HCG.out _ _ (H1.out.below ((Below.refl _ _).alloc (Nat.le_refl _) _)) (nv_lit _ 10 (by decide) (by decide) 10 rfl)).mono ?_); rintro e w5 ⟨A5, c5, rfl, hq, hb⟩; replace hb := below_al hb; (have hx := H1.out.below hb; clear H1; have H1 := Lib.hid hx; clear hx); (have hx := HN.out.below hb; clear HN; have HN := Lib.hid hx; clear hx); (have hx := HDD.out.below hb; clear HDD; have HDD := Lib.hid hx; clear hx); (have hx := HL.out.step hb; clear HL; have HL := Lib.hid hx; clear hx); have HG := Lib.hid hq; clear hq hb))
          go_ret3
          exact ⟨.inl ⟨rfl, HND.out⟩, HL.out.bel⟩
        · rw [if_neg hr0] at hnx
          obtain ⟨c, h1, h2, h3⟩ := HSP.out (fun h => hgc h.2)
          have hres := HST.out c h1 h2 h3
          rw [hnx] at hres
          obtain ⟨e1, e2, e3, e4⟩ := hres
          have E3 := Lib.hid e3
          have E4 := Lib.hid e4
          have HO2 := Lib.hid fun (W : World) A c (h : Nv W (.slice A (Nt.digs (Nat.gcd gk 10)).length c) (Nt.digs (Nat.gcd gk 10))) => one_no _ _ W h hgc
          clear e3 e4 h1 h2 h3 hnx HSP HST hr0 hgp hgl hq1 hgc
          generalize gk / Nat.gcd gk 10 = gn at *
          generalize Nat.gcd gk 10 = G at *
          go_wp2_with (first
            | (go_at_call 47; first | ((with_reducible refine (HO.out _ H1.out).mono ?_); rintro e w3 ⟨rfl, rfl⟩) | ((with_reducible refine (HO2.out _ _ _ HG.out).mono ?_); rintro e w3 ⟨rfl, rfl⟩))
            | (go_at_call 48; first
              | ((with_reducible refine (HDV.out _ _ (H1.out.below ((Below.refl _ _).alloc (Nat.le_refl _) _)) (nv_lit _ 10 (by decide) (by decide) 10 rfl)).mono ?_); rintro e w4 ⟨A3, c3, A4, c4, rfl, hq, -, hb⟩; replace hb := below_al hb; (have hx := H1.out.below hb; clear H1; have H1 := Lib.hid hx; clear hx); (have hx := HN.out.below hb; clear HN; have HN := Lib.hid hx; clear hx); (have hx := HDD.out.below hb; clear HDD; have HDD := Lib.hid hx; clear hx); (have hx := HL.out.step hb; clear HL; have HL := Lib.hid hx; clear hx); clear hq hb)
              | ((with_reducible refine (HDG.out _ _ _ H1.out HG.out).mono ?_); rintro e w6 ⟨A6, c6, A7, c7, rfl, hq, -, hb⟩; (have hx := HN.out.below hb; clear HN; have HN := Lib.hid hx; clear hx); (have hx := HDD.out.below hb; clear HDD; have HDD := Lib.hid hx; clear hx); (have hx := HL.out.step hb; clear HL; have HL := Lib.hid hx; clear hx); have HQ := Lib.hid hq; clear hq hb) | fail)
            | (go_at_call 49; refine (zero_any _ _ _ _).mono ?_; rintro e w0 ⟨rfl, rfl⟩)
            | (go_at_call 50; (with_reducible refine (HCG.out _ _ (H1.out.below ((Below.refl _ _).alloc (Nat.le_refl _) _)) (nv_lit _ 10 (by decide) (by decide) 10 rfl)).mono ?_); rintro e w5 ⟨A5, c5, rfl, hq, hb⟩; replace hb := below_al hb; (have hx := H1.out.below hb; clear H1; have H1 := Lib.hid hx; clear hx); (have hx := HN.out.below hb; clear HN; have HN := Lib.hid hx; clear hx); (have hx := HDD.out.below hb; clear HDD; have HDD := Lib.hid hx; clear hx); (have hx := HL.out.step hb; clear HL; have HL := Lib.hid hx; clear hx); have HG := Lib.hid hq; clear hq hb))
          go_roundg gn
          case measure => exact e2
          case rel => exact ⟨k + 1, e1, by go_num, ⟨_, _, rfl⟩, HQ.out, hq2, E3, E4, HL.out, HN.out, HDD.out⟩
end Go.Proofs.YtmmlcponmdalmaaGreatDoor
