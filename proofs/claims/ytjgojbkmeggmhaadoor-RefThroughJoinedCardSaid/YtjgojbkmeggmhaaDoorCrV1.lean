/- The contract of cellref.Parse: a text that is no reference. -/
import Derived.Test.YtjgojbkmeggmhaaDoorCrV0
namespace Go.Proofs.YtjgojbkmeggmhaaDoor
open Go.RowKit

set_option maxRecDepth 100000 in
set_option maxHeartbeats 20000000 in
theorem parse_bad (l : List UInt8) (w : World) (he : Env w) (hl : l.length ≤ 4000000000) (h500 : ¬ 500 < l.length) (href : l ≠ [35, 82, 69, 70, 33]) (hX : (halves l).bad = true) :
    Calls Tryd.prog 33 #[sv l] w fun e w' => e = .returned (.tuple #[(parseF l).1.v, .int .i64 (parseF l).2]) ∧ Below w.heap.size w w' := by
  have hF : parseF l = if (halves l).bad = true then (Ref.zero, 10)
    else if (Cr.valuesF (halves l).a).2.2 ≠ 0 then (Ref.zero, (Cr.valuesF (halves l).a).2.2)
    else if (halves l).two = true ∧ (Cr.valuesF (halves l).b).2.2 ≠ 0 then (Ref.zero, (Cr.valuesF (halves l).b).2.2)
    else if (halves l).ref.ordered.check ≠ 0 then (Ref.zero, (halves l).ref.ordered.check)
    else ((halves l).ref.ordered, 0) := by rw [parseF, if_neg h500, if_neg href]
  have hH : halves l = ⟨(Cr.sheetF l).1, (Cr.sheetF l).2.2, (Lib.cut (Cr.sheetF l).2.1 [58]).2.2, (Cr.placeF (Lib.cut (Cr.sheetF l).2.1 [58]).1).1, (Cr.placeF (Lib.cut (Cr.sheetF l).2.1 [58]).1).2,
      (if (Lib.cut (Cr.sheetF l).2.1 [58]).2.2 then Cr.placeF (Lib.cut (Cr.sheetF l).2.1 [58]).2.1 else ((Cr.placeF (Lib.cut (Cr.sheetF l).2.1 [58]).1).1, true)).1,
      (if (Lib.cut (Cr.sheetF l).2.1 [58]).2.2 then Cr.placeF (Lib.cut (Cr.sheetF l).2.1 [58]).2.1 else ((Cr.placeF (Lib.cut (Cr.sheetF l).2.1 [58]).1).1, true)).2⟩ := rfl
  have l1 := Cr.sheetF_len l
  have l0 := Cr.sheetF_len1 l
  obtain ⟨l2, l3⟩ := Cr.cut_len (Cr.sheetF l).2.1 [58]
  have hsheet := fun W hE => sheet_any ⟨l.toArray⟩ W hE (by rw [size_mk]; exact hl)
  rw [show (⟨l.toArray⟩ : ByteArray).data.toList = l from rfl] at hsheet
  have hcut : ∀ W, Env W → Calls Tryd.prog 74 #[sv (Cr.sheetF l).2.1, .string ⟨#[58]⟩] W fun e w' => e = .returned (.tuple #[sv (Lib.cut (Cr.sheetF l).2.1 [58]).1, sv (Lib.cut (Cr.sheetF l).2.1 [58]).2.1, .bool (Lib.cut (Cr.sheetF l).2.1 [58]).2.2]) ∧ Below W.heap.size W w' := fun W hE => by
    obtain ⟨m, hm⟩ := hE.max
    refine (Tryd.strings_Cut ⟨(Cr.sheetF l).2.1.toArray⟩ ⟨#[58]⟩ m W (by rw [size_mk]; omega) hm).mono ?_
    rintro e w' ⟨rfl, n, rfl⟩
    exact ⟨rfl, below_drewN (Below.refl _ _) _⟩
  have hpa := fun W => place_any (Lib.cut (Cr.sheetF l).2.1 [58]).1 W (by omega)
  have hpb := fun W => place_any (Lib.cut (Cr.sheetF l).2.1 [58]).2.1 W (by omega)
  have oka := fun h => Cr.placeF_ok (l := (Lib.cut (Cr.sheetF l).2.1 [58]).1) h
  have okb := fun h => Cr.placeF_ok (l := (Lib.cut (Cr.sheetF l).2.1 [58]).2.1) h
  generalize halves l = H at *
  generalize Cr.placeF (Lib.cut (Cr.sheetF l).2.1 [58]).1 = pa at *
  generalize Cr.placeF (Lib.cut (Cr.sheetF l).2.1 [58]).2.1 = pb at *
  generalize Lib.cut (Cr.sheetF l).2.1 [58] = c at *
  generalize Cr.sheetF l = s at *
  obtain ⟨s1, s2, s3⟩ := s
  obtain ⟨c1, c2, c3⟩ := c
  obtain ⟨a, fine⟩ := pa
  obtain ⟨b', good'⟩ := pb
  dsimp only at *
  have HXB := Lib.hid hX
  clear hX
  have HF := Lib.hid hF
  have HH := Lib.hid hH
  have HS := Lib.hid hsheet
  have HC := Lib.hid hcut
  have HA := Lib.hid hpa
  have HB := Lib.hid hpb
  have OA := Lib.hid oka
  have OB := Lib.hid okb
  have hr' : (l == [35, 82, 69, 70, 33]) = false := by simpa using href
  have hz : c1.length ≤ 100000 ∧ c2.length ≤ 100000 := by omega
  clear hF hH hsheet hcut hpa hpb oka okb l1 l2 l3 href
  go_enter Tryd.func33, Tryd.ntmps33
  go_upto_if 44 with (first | (go_at_call 73; refine (HS.out _ (he.below ?_)).mono ?_; go_grown; rintro e w1 ⟨rfl, hw⟩; obtain ⟨hcs, hB⟩ := box_after hw; have hR := (Blk.new w 40 Ref.zero.cs).later hw; clear hw hcs) | (go_at_call 74; refine (HC.out _ (he.below ?_)).mono ?_; assumption; rintro e w2 ⟨rfl, hw⟩; have hB2 := below_tr (by assumption) hw; have hR2 := Blk.later (by assumption) hw; clear hw) | (go_at_call 75; refine (HA.out _).mono ?_; rintro e w3 ⟨rfl, hw⟩; have hB3 := below_tr (by assumption) hw; have hR3 := Blk.later (by assumption) hw; clear hw))
  go_cut [13] (fun v wx => v = .bool H.good ∧ ParseAt w w3.heap.size (w3.heap.size + 1) H.a H.b wx)
  case first =>
    clear HS HC HA HF
    have hlt : w.heap.size < w3.heap.size := hR3.lt
    cases c3
    · have hH := HH.out
      subst hH
      go_wp2_with fail
      go_meet
      refine ⟨rfl, (hR3.alloc _).alloc _, (Blk.new w3 _ _).alloc _, ?_, (hB3.alloc (by omega) _).alloc (by simp; omega) _⟩
      have h := Blk.new (w3.alloc (.cells #[sv a.letters, sv a.number, .bool a.ac, .bool a.ar] 140)) 140 #[sv a.letters, sv a.number, .bool a.ac, .bool a.ar]
      simpa using h
    · have hH := HH.out
      subst hH
      have b0 := Blk.new (w3.alloc (.cells #[sv a.letters, sv a.number, .bool a.ac, .bool a.ar] 140)) 140 #[sv a.letters, sv a.number, .bool a.ac, .bool a.ar]
      have a0 := (Blk.new w3 140 #[sv a.letters, sv a.number, .bool a.ac, .bool a.ar]).alloc (.cells #[sv a.letters, sv a.number, .bool a.ac, .bool a.ar] 140)
      have r0 := (hR3.alloc (.cells #[sv a.letters, sv a.number, .bool a.ac, .bool a.ar] 140)).alloc (.cells #[sv a.letters, sv a.number, .bool a.ac, .bool a.ar] 140)
      have B0 := (hB3.alloc (by omega) (.cells #[sv a.letters, sv a.number, .bool a.ac, .bool a.ar] 140)).alloc (by simp; omega) (.cells #[sv a.letters, sv a.number, .bool a.ac, .bool a.ar] 140)
      rw [show (w3.alloc (.cells #[sv a.letters, sv a.number, .bool a.ac, .bool a.ar] 140)).heap.size = w3.heap.size + 1 from by simp] at b0
      have K := Lib.hid (And.intro b0 (And.intro a0 (And.intro r0 B0)))
      clear b0 a0 r0 B0 hR3 hB3 HH
      go_wp2_with (first | (go_at_call 75; refine (HB.out _).mono ?_; rintro e w4 ⟨rfl, hw⟩; obtain ⟨b0, a0, r0, B0⟩ := K.out; have b1 := b0.later hw; have A1 := Lib.hid (a0.later hw); have R1 := Lib.hid (r0.later hw); have B1 := below_tr B0 hw; have HB1 := Lib.hid b1; obtain ⟨d0, d1, d2, d3, f0, f1, f2, f3⟩ := b1.four; clear hw b0 a0 r0 B0 K b1))
      go_meet
      exact ⟨rfl, R1.out.four_far (by omega) _ _ _ _, A1.out.four_far (by omega) _ _ _ _, HB1.out.four_set _ _ _ _, (((B1.setCell (p := ⟨w3.heap.size + 1, 0, none⟩) (by simp; omega) _).setCell (p := ⟨w3.heap.size + 1, 1, none⟩) (by simp; omega) _).setCell (p := ⟨w3.heap.size + 1, 2, none⟩) (by simp; omega) _).setCell (p := ⟨w3.heap.size + 1, 3, none⟩) (by simp; omega) _⟩
  case rest =>
    obtain ⟨rfl, hP⟩ := hcut
    obtain ⟨b2, hb2⟩ : ∃ b2, b2 = (if c3 = true then (b', good') else (a, true)).1 := ⟨_, rfl⟩
    obtain ⟨g2, hg2⟩ : ∃ g2, g2 = (if c3 = true then (b', good') else (a, true)).2 := ⟨_, rfl⟩
    have hH := HH.out
    rw [← hb2, ← hg2] at hH
    subst hH
    have okB : fine = true → g2 = true → Cr.digitsOK b2.number ∧ b2.letters.length ≤ 7 := fun h1 h2 => by
      cases c3
      · simp at hb2; subst hb2; exact OA.out h1
      · simp at hb2 hg2; subst hb2 hg2; exact OB.out h2
    have OKB := Lib.hid okB
    clear HH HS HC HA HB OB okB hb2 hg2 hR hR2 hR3 hB hB2 hB3 hz
    dsimp only at hP HF
    obtain ⟨hres, hca, hcb, hbel⟩ := hP
    obtain ⟨k0, k1, k2, k3, _⟩ := hca.four
    obtain ⟨m0, m1, m2, m3, _⟩ := hcb.four
    have HRES := Lib.hid hres
    have HCA := Lib.hid hca
    have HCB := Lib.hid hcb
    clear hres hca hcb k2 k3 m2 m3
    obtain ⟨al, an, aac, aar⟩ := a
    obtain ⟨bl, bn, bac, bar⟩ := b2
    generalize hbad : Halves.bad ⟨s1, s3, c3, ⟨al, an, aac, aar⟩, fine, ⟨bl, bn, bac, bar⟩, g2⟩ = BAD at *
    generalize hwh : Halves.whole ⟨s1, s3, c3, ⟨al, an, aac, aar⟩, fine, ⟨bl, bn, bac, bar⟩, g2⟩ = WH at *
    have HBAD := Lib.hid hbad
    have HWH := Lib.hid hwh
    clear hbad hwh
    dsimp only at k0 k1 m0 m1
    go_upto_region 11 with fail
    go_cut [14] (fun v wx => v = .bool WH ∧ wx = wc)
    case first =>
      clear HBAD HF OKB HRES HCA HCB
      cases al with
      | nil =>
        go_wp2_with fail
        go_meet
        exact ⟨by rw [← HWH.out]; rfl, rfl⟩
      | cons a0 at' =>
        cases an with
        | nil =>
          go_wp2_with fail
          go_meet
          exact ⟨by rw [← HWH.out]; rfl, rfl⟩
        | cons a1 au =>
          go_wp2_with fail
          go_meet
          exact ⟨by rw [← HWH.out]; rfl, rfl⟩
    case rest =>
    obtain ⟨rfl, rfl⟩ := hcut
    go_upto_region 12 with fail
    go_cut [93] (fun v wx => v = .bool BAD ∧ wx = wc)
    case first =>
      clear HF OKB HRES HCA HCB
      have hwh2 := HWH.out
      subst hwh2
      clear HWH
      cases s3
      case false =>
        first | (exfalso; have hx := HBAD.out.trans HXB.out; simp [Halves.bad, Halves.whole] at hx; done) | (go_wp2_with fail; go_meet; exact ⟨by rw [← HBAD.out]; rfl, rfl⟩)
      cases fine
      case false =>
        first | (exfalso; have hx := HBAD.out.trans HXB.out; simp [Halves.bad, Halves.whole] at hx; done) | (go_wp2_with fail; go_meet; exact ⟨by rw [← HBAD.out]; rfl, rfl⟩)
      cases g2
      case false =>
        first | (exfalso; have hx := HBAD.out.trans HXB.out; simp [Halves.bad, Halves.whole] at hx; done) | (go_wp2_with fail; go_meet; exact ⟨by rw [← HBAD.out]; rfl, rfl⟩)
      cases al with
      | nil =>
        cases bl with
        | nil =>
          cases an with
          | nil =>
            cases bn with
            | nil =>
              cases c3
              · first | (exfalso; have hx := HBAD.out.trans HXB.out; simp [Halves.bad, Halves.whole] at hx; done) | (go_wp2_with fail; go_meet; exact ⟨by rw [← HBAD.out]; rfl, rfl⟩)
              · first | (exfalso; have hx := HBAD.out.trans HXB.out; simp [Halves.bad, Halves.whole] at hx; done) | (go_wp2_with fail; go_meet; exact ⟨by rw [← HBAD.out]; rfl, rfl⟩)
            | cons b1 bu =>
              first | (exfalso; have hx := HBAD.out.trans HXB.out; simp [Halves.bad, Halves.whole] at hx; done) | (go_wp2_with fail; go_meet; exact ⟨by rw [← HBAD.out]; rfl, rfl⟩)
          | cons a1 au =>
            cases bn with
            | nil =>
              first | (exfalso; have hx := HBAD.out.trans HXB.out; simp [Halves.bad, Halves.whole] at hx; done) | (go_wp2_with fail; go_meet; exact ⟨by rw [← HBAD.out]; rfl, rfl⟩)
            | cons b1 bu =>
              cases c3
              · first | (exfalso; have hx := HBAD.out.trans HXB.out; simp [Halves.bad, Halves.whole] at hx; done) | (go_wp2_with fail; go_meet; exact ⟨by rw [← HBAD.out]; rfl, rfl⟩)
              · first | (exfalso; have hx := HBAD.out.trans HXB.out; simp [Halves.bad, Halves.whole] at hx; done) | (go_wp2_with fail; go_meet; exact ⟨by rw [← HBAD.out]; rfl, rfl⟩)
        | cons b0 bt =>
          first | (exfalso; have hx := HBAD.out.trans HXB.out; simp [Halves.bad, Halves.whole] at hx; done) | (go_wp2_with fail; go_meet; exact ⟨by rw [← HBAD.out]; rfl, rfl⟩)
      | cons a0 at' =>
        cases bl with
        | nil =>
          first | (exfalso; have hx := HBAD.out.trans HXB.out; simp [Halves.bad, Halves.whole] at hx; done) | (go_wp2_with fail; go_meet; exact ⟨by rw [← HBAD.out]; rfl, rfl⟩)
        | cons b0 bt =>
          cases an with
          | nil =>
            cases bn with
            | nil =>
              cases c3
              · first | (exfalso; have hx := HBAD.out.trans HXB.out; simp [Halves.bad, Halves.whole] at hx; done) | (go_wp2_with fail; go_meet; exact ⟨by rw [← HBAD.out]; rfl, rfl⟩)
              · first | (exfalso; have hx := HBAD.out.trans HXB.out; simp [Halves.bad, Halves.whole] at hx; done) | (go_wp2_with fail; go_meet; exact ⟨by rw [← HBAD.out]; rfl, rfl⟩)
            | cons b1 bu =>
              first | (exfalso; have hx := HBAD.out.trans HXB.out; simp [Halves.bad, Halves.whole] at hx; done) | (go_wp2_with fail; go_meet; exact ⟨by rw [← HBAD.out]; rfl, rfl⟩)
          | cons a1 au =>
            cases bn with
            | nil =>
              first | (exfalso; have hx := HBAD.out.trans HXB.out; simp [Halves.bad, Halves.whole] at hx; done) | (go_wp2_with fail; go_meet; exact ⟨by rw [← HBAD.out]; rfl, rfl⟩)
            | cons b1 bu =>
              cases c3
              · first | (exfalso; have hx := HBAD.out.trans HXB.out; simp [Halves.bad, Halves.whole] at hx; done) | (go_wp2_with fail; go_meet; exact ⟨by rw [← HBAD.out]; rfl, rfl⟩)
              · first | (exfalso; have hx := HBAD.out.trans HXB.out; simp [Halves.bad, Halves.whole] at hx; done) | (go_wp2_with fail; go_meet; exact ⟨by rw [← HBAD.out]; rfl, rfl⟩)
    case rest =>
    obtain ⟨rfl, rfl⟩ := hcut
    clear k0 k1 m0 m1
    cases BAD
    case true =>
      have hpf : parseF l = (Ref.zero, 10) := by rw [HF.out, if_pos rfl]
      have HPF := Lib.hid hpf
      clear hpf HF OKB
      have hres := HRES.out
      obtain ⟨z0, z1, z2, z3, z4, z5, z6, z7, z8, z9⟩ := hres.ten
      obtain ⟨q0, q1, q2, q3, q4, q5, q6, q7, q8, q9⟩ := hres.tenf
      go_upto_region 13 with fail
      iterate 18 (try go_step)
      obtain ⟨_, n0, n1, n2, n3, n4, n5, n6, n7, n8, n9⟩ := hres.ten_set (.string ⟨#[]⟩) (.int .i64 0) (.int .i64 0) (.int .i64 0) (.int .i64 0) (.int .i64 0) (.bool false) (.bool false) (.bool false) (.bool false)
      refine bodyPost_ret (v := .tuple #[.agg #[.string ⟨#[]⟩, .int .i64 0, .int .i64 0, .int .i64 0, .int .i64 0, .int .i64 0, .bool false, .bool false, .bool false, .bool false], .int .i64 10]) (by simp [results, Tryd.results33, go_sem, n0, n1, n2, n3, n4, n5, n6, n7, n8, n9]) rfl ⟨by rw [HPF.out]; rfl, below_ten hbel (Nat.le_refl _) _ _ _ _ _ _ _ _ _ _⟩
    case false => exact absurd HXB.out (by decide)
end Go.Proofs.YtjgojbkmeggmhaaDoor
