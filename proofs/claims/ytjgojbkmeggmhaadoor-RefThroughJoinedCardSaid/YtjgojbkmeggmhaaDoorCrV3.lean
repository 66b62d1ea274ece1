/- The contract of cellref.Parse: a reference that is read. -/
import Derived.Test.YtjgojbkmeggmhaaDoorCrV0
namespace Go.Proofs.YtjgojbkmeggmhaaDoor
open Go.RowKit

set_option maxRecDepth 100000 in
set_option maxHeartbeats 20000000 in
theorem parse_read (l : List UInt8) (w : World) (he : Env w) (hl : l.length ≤ 4000000000) (h500 : ¬ 500 < l.length) (href : l ≠ [35, 82, 69, 70, 33]) (hX : (halves l).bad = false) (hY : (Cr.valuesF (halves l).a).2.2 = 0 ∧ ((halves l).two = true → (Cr.valuesF (halves l).b).2.2 = 0)) :
    Calls Tryd.prog 33 #[sv l] w fun e w' => e = .returned (.tuple #[(parseF l).1.v, .int .i64 (parseF l).2]) ∧ Below w.heap.size w w' := by
  have hF : parseF l = if (halves l).bad = true then (Ref.zero, 10)
    else if (Cr.valuesF (halves l).a).2.2 ≠ 0 then (Ref.zero, (Cr.valuesF (halves l).a).2.2)
    else if (halves l).two = true ∧ (Cr.valuesF (halves l).b).2.2 ≠ 0 then (Ref.zero, (Cr.valuesF (halves l).b).2.2)
    else if (halves l).ref.ordered.check ≠ 0 then (Ref.zero, (halves l).ref.ordered.check)
    else ((halves l).ref.ordered, 0) := by rw [parseF, if_neg h500, if_neg href]
  have hH : halves l = ⟨(Cr.sheetF l).1, (Cr.sheetF l).2.2, (Lib.cut (Cr.sheetF l).2.1 [58]).2.2, (Cr.placeF (Lib.cut (Cr.sheetF l).2.1 [58]).1).1, (Cr.placeF (Lib.cut (Cr.sheetF l).2.1 [58]).1).2,
      (if (Lib.cut (Cr.sheetF l).2.1 [58]).2.2 then Cr.placeF (Lib.cut (Cr.sheetF l).2.1 [58]).2.1 else ((Cr.placeF (Lib.cut (Cr.sheetF l).2.1 [58]).1).1, true)).1,
      (if (Lib.cut (Cr.sheetF l).2.1 [58]).2.2 then Cr.placeF (Lib.cut (Cr.sheetF l).2.1 [58]).2.1 else ((Cr.placeF (Lib.cut (Cr.sheetF l).2.1 [58]).1).1, true)).2⟩ := rfl
  have l1 := Cr.sheetF_len l
  have l0 := Cr.sheetF_len1 l
  obtain ⟨l2, l3⟩ := Cr.cut_len (Cr.sheetF l).2.1 [58]
  have hsheet := fun W hE => sheet_any ⟨l.toArray⟩ W hE (by rw [size_mk]; exact hl)
  rw [show (⟨l.toArray⟩ : ByteArray).data.toList = l from rfl] at hsheet
  have hcut : ∀ W, Env W → Calls Tryd.prog 74 #[sv (Cr.sheetF l).2.1, .string ⟨#[58]⟩] W fun e w' => e = .returned (.tuple #[sv (Lib.cut (Cr.sheetF l).2.1 [58]).1, sv (Lib.cut (Cr.sheetF l).2.1 [58]).2.1, .bool (Lib.cut (Cr.sheetF l).2.1 [58]).2.2]) ∧ Below W.heap.size W w' := fun W hE => by
    obtain ⟨m, hm⟩ := hE.max
    refine (Tryd.strings_Cut ⟨(Cr.sheetF l).2.1.toArray⟩ ⟨#[58]⟩ m W (by rw [size_mk]; omega) hm).mono ?_
    rintro e w' ⟨rfl, n, rfl⟩
    exact ⟨rfl, below_drewN (Below.refl _ _) _⟩
  have hpa := fun W => place_any (Lib.cut (Cr.sheetF l).2.1 [58]).1 W (by omega)
  have hpb := fun W => place_any (Lib.cut (Cr.sheetF l).2.1 [58]).2.1 W (by omega)
  have oka := fun h => Cr.placeF_ok (l := (Lib.cut (Cr.sheetF l).2.1 [58]).1) h
  have okb := fun h => Cr.placeF_ok (l := (Lib.cut (Cr.sheetF l).2.1 [58]).2.1) h
  generalize halves l = H at *
  generalize Cr.placeF (Lib.cut (Cr.sheetF l).2.1 [58]).1 = pa at *
  generalize Cr.placeF (Lib.cut (Cr.sheetF l).2.1 [58]).2.1 = pb at *
  generalize Lib.cut (Cr.sheetF l).2.1 [58] = c at *
  generalize Cr.sheetF l = s at *
  obtain ⟨s1, s2, s3⟩ := s
  obtain ⟨c1, c2, c3⟩ := c
  obtain ⟨a, fine⟩ := pa
  obtain ⟨b', good'⟩ := pb
  dsimp only at *
  have HXB := Lib.hid hX
  have HY := Lib.hid hY
  clear hX hY
  have HF := Lib.hid hF
  have HH := Lib.hid hH
  have HS := Lib.hid hsheet
  have HC := Lib.hid hcut
  have HA := Lib.hid hpa
  have HB := Lib.hid hpb
  have OA := Lib.hid oka
  have OB := Lib.hid okb
  have hr' : (l == [35, 82, 69, 70, 33]) = false := by simpa using href
  have hz : c1.length ≤ 100000 ∧ c2.length ≤ 100000 := by omega
  clear hF hH hsheet hcut hpa hpb oka okb l1 l2 l3 href
  go_enter Tryd.func33, Tryd.ntmps33
  go_upto_if 44 with (first | (go_at_call 73; refine (HS.out _ (he.below ?_)).mono ?_; go_grown; rintro e w1 ⟨rfl, hw⟩; obtain ⟨hcs, hB⟩ := box_after hw; have hR := (Blk.new w 40 Ref.zero.cs).later hw; clear hw hcs) | (go_at_call 74; refine (HC.out _ (he.below ?_)).mono ?_; assumption; rintro e w2 ⟨rfl, hw⟩; have hB2 := below_tr (by assumption) hw; have hR2 := Blk.later (by assumption) hw; clear hw) | (go_at_call 75; refine (HA.out _).mono ?_; rintro e w3 ⟨rfl, hw⟩; have hB3 := below_tr (by assumption) hw; have hR3 := Blk.later (by assumption) hw; clear hw))
  go_cut [13] (fun v wx => v = .bool H.good ∧ ParseAt w w3.heap.size (w3.heap.size + 1) H.a H.b wx)
  case first =>
    clear HS HC HA HF
    have hlt : w.heap.size < w3.heap.size := hR3.lt
    cases c3
    · have hH := HH.out
      subst hH
      go_wp2_with fail
      go_meet
      refine ⟨rfl, (hR3.alloc _).alloc _, (Blk.new w3 _ _).alloc _, ?_, (hB3.alloc (by omega) _).alloc (by simp; omega) _⟩
      have h := Blk.new (w3.alloc (.cells #[sv a.letters, sv a.number, .bool a.ac, .bool a.ar] 140)) 140 #[sv a.letters, sv a.number, .bool a.ac, .bool a.ar]
      simpa using h
    · have hH := HH.out
      subst hH
      have b0 := Blk.new (w3.alloc (.cells #[sv a.letters, sv a.number, .bool a.ac, .bool a.ar] 140)) 140 #[sv a.letters, sv a.number, .bool a.ac, .bool a.ar]
      have a0 := (Blk.new w3 140 #[sv a.letters, sv a.number, .bool a.ac, .bool a.ar]).alloc (.cells #[sv a.letters, sv a.number, .bool a.ac, .bool a.ar] 140)
      have r0 := (hR3.alloc (.cells #[sv a.letters, sv a.number, .bool a.ac, .bool a.ar] 140)).alloc (.cells #[sv a.letters, sv a.number, .bool a.ac, .bool a.ar] 140)
      have B0 := (hB3.alloc (by omega) (.cells #[sv a.letters, sv a.number, .bool a.ac, .bool a.ar] 140)).alloc (by simp; omega) (.cells #[sv a.letters, sv a.number, .bool a.ac, .bool a.ar] 140)
      rw [show (w3.alloc (.cells #[sv a.letters, sv a.number, .bool a.ac, .bool a.ar] 140)).heap.size = w3.heap.size + 1 from by simp] at b0
      have K := Lib.hid (And.intro b0 (And.intro a0 (And.intro r0 B0)))
      clear b0 a0 r0 B0 hR3 hB3 HH
      go_wp2_with (first | (go_at_call 75; refine (HB.out _).mono ?_; rintro e w4 ⟨rfl, hw⟩; obtain ⟨b0, a0, r0, B0⟩ := K.out; have b1 := b0.later hw; have A1 := Lib.hid (a0.later hw); have R1 := Lib.hid (r0.later hw); have B1 := below_tr B0 hw; have HB1 := Lib.hid b1; obtain ⟨d0, d1, d2, d3, f0, f1, f2, f3⟩ := b1.four; clear hw b0 a0 r0 B0 K b1))
      go_meet
      exact ⟨rfl, R1.out.four_far (by omega) _ _ _ _, A1.out.four_far (by omega) _ _ _ _, HB1.out.four_set _ _ _ _, (((B1.setCell (p := ⟨w3.heap.size + 1, 0, none⟩) (by simp; omega) _).setCell (p := ⟨w3.heap.size + 1, 1, none⟩) (by simp; omega) _).setCell (p := ⟨w3.heap.size + 1, 2, none⟩) (by simp; omega) _).setCell (p := ⟨w3.heap.size + 1, 3, none⟩) (by simp; omega) _⟩
  case rest =>
    obtain ⟨rfl, hP⟩ := hcut
    obtain ⟨b2, hb2⟩ : ∃ b2, b2 = (if c3 = true then (b', good') else (a, true)).1 := ⟨_, rfl⟩
    obtain ⟨g2, hg2⟩ : ∃ g2, g2 = (if c3 = true then (b', good') else (a, true)).2 := ⟨_, rfl⟩
    have hH := HH.out
    rw [← hb2, ← hg2] at hH
    subst hH
    have okB : fine = true → g2 = true → Cr.digitsOK b2.number ∧ b2.letters.length ≤ 7 := fun h1 h2 => by
      cases c3
      · simp at hb2; subst hb2; exact OA.out h1
      · simp at hb2 hg2; subst hb2 hg2; exact OB.out h2
    have OKB := Lib.hid okB
    clear HH HS HC HA HB OB okB hb2 hg2 hR hR2 hR3 hB hB2 hB3 hz
    dsimp only at hP HF
    obtain ⟨hres, hca, hcb, hbel⟩ := hP
    obtain ⟨k0, k1, k2, k3, _⟩ := hca.four
    obtain ⟨m0, m1, m2, m3, _⟩ := hcb.four
    have HRES := Lib.hid hres
    have HCA := Lib.hid hca
    have HCB := Lib.hid hcb
    clear hres hca hcb k2 k3 m2 m3
    obtain ⟨al, an, aac, aar⟩ := a
    obtain ⟨bl, bn, bac, bar⟩ := b2
    generalize hbad : Halves.bad ⟨s1, s3, c3, ⟨al, an, aac, aar⟩, fine, ⟨bl, bn, bac, bar⟩, g2⟩ = BAD at *
    generalize hwh : Halves.whole ⟨s1, s3, c3, ⟨al, an, aac, aar⟩, fine, ⟨bl, bn, bac, bar⟩, g2⟩ = WH at *
    have HBAD := Lib.hid hbad
    have HWH := Lib.hid hwh
    clear hbad hwh
    dsimp only at k0 k1 m0 m1
    go_upto_region 11 with fail
    go_cut [14] (fun v wx => v = .bool WH ∧ wx = wc)
    case first =>
      clear HBAD HF OKB HRES HCA HCB
      cases al with
      | nil =>
        go_wp2_with fail
        go_meet
        exact ⟨by rw [← HWH.out]; rfl, rfl⟩
      | cons a0 at' =>
        cases an with
        | nil =>
          go_wp2_with fail
          go_meet
          exact ⟨by rw [← HWH.out]; rfl, rfl⟩
        | cons a1 au =>
          go_wp2_with fail
          go_meet
          exact ⟨by rw [← HWH.out]; rfl, rfl⟩
    case rest =>
    obtain ⟨rfl, rfl⟩ := hcut
    go_upto_region 12 with fail
    go_cut [93] (fun v wx => v = .bool BAD ∧ wx = wc)
    case first =>
      clear HF OKB HRES HCA HCB
      have hwh2 := HWH.out
      subst hwh2
      clear HWH
      cases s3
      case false =>
        first | (exfalso; have hx := HBAD.out.trans HXB.out; simp [Halves.bad, Halves.whole] at hx; done) | (go_wp2_with fail; go_meet; exact ⟨by rw [← HBAD.out]; rfl, rfl⟩)
      cases fine
      case false =>
        first | (exfalso; have hx := HBAD.out.trans HXB.out; simp [Halves.bad, Halves.whole] at hx; done) | (go_wp2_with fail; go_meet; exact ⟨by rw [← HBAD.out]; rfl, rfl⟩)
      cases g2
      case false =>
        first | (exfalso; have hx := HBAD.out.trans HXB.out; simp [Halves.bad, Halves.whole] at hx; done) | (go_wp2_with fail; go_meet; exact ⟨by rw [← HBAD.out]; rfl, rfl⟩)
      cases al with
      | nil =>
        cases bl with
        | nil =>
          cases an with
          | nil =>
            cases bn with
            | nil =>
              cases c3
              · first | (exfalso; have hx := HBAD.out.trans HXB.out; simp [Halves.bad, Halves.whole] at hx; done) | (go_wp2_with fail; go_meet; exact ⟨by rw [← HBAD.out]; rfl, rfl⟩)
              · first | (exfalso; have hx := HBAD.out.trans HXB.out; simp [Halves.bad, Halves.whole] at hx; done) | (go_wp2_with fail; go_meet; exact ⟨by rw [← HBAD.out]; rfl, rfl⟩)
            | cons b1 bu =>
              first | (exfalso; have hx := HBAD.out.trans HXB.out; simp [Halves.bad, Halves.whole] at hx; done) | (go_wp2_with fail; go_meet; exact ⟨by rw [← HBAD.out]; rfl, rfl⟩)
          | cons a1 au =>
            cases bn with
            | nil =>
              first | (exfalso; have hx := HBAD.out.trans HXB.out; simp [Halves.bad, Halves.whole] at hx; done) | (go_wp2_with fail; go_meet; exact ⟨by rw [← HBAD.out]; rfl, rfl⟩)
            | cons b1 bu =>
              cases c3
              · first | (exfalso; have hx := HBAD.out.trans HXB.out; simp [Halves.bad, Halves.whole] at hx; done) | (go_wp2_with fail; go_meet; exact ⟨by rw [← HBAD.out]; rfl, rfl⟩)
              · first | (exfalso; have hx := HBAD.out.trans HXB.out; simp [Halves.bad, Halves.whole] at hx; done) | (go_wp2_with fail; go_meet; exact ⟨by rw [← HBAD.out]; rfl, rfl⟩)
        | cons b0 bt =>
          first | (exfalso; have hx := HBAD.out.trans HXB.out; simp [Halves.bad, Halves.whole] at hx; done) | (go_wp2_with fail; go_meet; exact ⟨by rw [← HBAD.out]; rfl, rfl⟩)
      | cons a0 at' =>
        cases bl with
        | nil =>
          first | (exfalso; have hx := HBAD.out.trans HXB.out; simp [Halves.bad, Halves.whole] at hx; done) | (go_wp2_with fail; go_meet; exact ⟨by rw [← HBAD.out]; rfl, rfl⟩)
        | cons b0 bt =>
          cases an with
          | nil =>
            cases bn with
            | nil =>
              cases c3
              · first | (exfalso; have hx := HBAD.out.trans HXB.out; simp [Halves.bad, Halves.whole] at hx; done) | (go_wp2_with fail; go_meet; exact ⟨by rw [← HBAD.out]; rfl, rfl⟩)
              · first | (exfalso; have hx := HBAD.out.trans HXB.out; simp [Halves.bad, Halves.whole] at hx; done) | (go_wp2_with fail; go_meet; exact ⟨by rw [← HBAD.out]; rfl, rfl⟩)
            | cons b1 bu =>
              first | (exfalso; have hx := HBAD.out.trans HXB.out; simp [Halves.bad, Halves.whole] at hx; done) | (go_wp2_with fail; go_meet; exact ⟨by rw [← HBAD.out]; rfl, rfl⟩)
          | cons a1 au =>
            cases bn with
            | nil =>
              first | (exfalso; have hx := HBAD.out.trans HXB.out; simp [Halves.bad, Halves.whole] at hx; done) | (go_wp2_with fail; go_meet; exact ⟨by rw [← HBAD.out]; rfl, rfl⟩)
            | cons b1 bu =>
              cases c3
              · first | (exfalso; have hx := HBAD.out.trans HXB.out; simp [Halves.bad, Halves.whole] at hx; done) | (go_wp2_with fail; go_meet; exact ⟨by rw [← HBAD.out]; rfl, rfl⟩)
              · first | (exfalso; have hx := HBAD.out.trans HXB.out; simp [Halves.bad, Halves.whole] at hx; done) | (go_wp2_with fail; go_meet; exact ⟨by rw [← HBAD.out]; rfl, rfl⟩)
    case rest =>
    obtain ⟨rfl, rfl⟩ := hcut
    clear k0 k1 m0 m1
    cases BAD
    case true => exact absurd HXB.out (by decide)
    case false =>
      obtain ⟨wA, rfl⟩ : ∃ wA : World, wA = wc := ⟨_, rfl⟩
      have hcb2 := HCB.out
      have hca := HCA.out
      have hres := HRES.out
      have hgr : w.heap.size < wA.heap.size := hres.lt
      obtain ⟨_, _, k2, k3, _⟩ := hca.four
      have hall := Halves.bad_false HBAD.out
      obtain ⟨hok, hfine, hgood, _⟩ := hall
      dsimp only at hok hfine hgood
      subst hok hfine hgood
      obtain ⟨hda, hla⟩ := OA.out rfl
      obtain ⟨hdb, hlb⟩ := OKB.out rfl rfl
      have hF := HF.out
      rw [if_neg (by simp)] at hF
      have hvalA : ∀ W : World, Calls Tryd.prog 76 #[.agg #[sv al, sv an, .bool aac, .bool aar]] W fun e w' => e = .returned (.tuple #[.int .i64 (Cr.valuesF ⟨al, an, aac, aar⟩).1, .int .i64 (Cr.valuesF ⟨al, an, aac, aar⟩).2.1, .int .i64 (Cr.valuesF ⟨al, an, aac, aar⟩).2.2]) ∧ Below W.heap.size W w' := fun W => values_any al an aac aar W (by dsimp only at hla; omega) hda
      have hvalB : ∀ W : World, Calls Tryd.prog 76 #[.agg #[sv bl, sv bn, .bool bac, .bool bar]] W fun e w' => e = .returned (.tuple #[.int .i64 (Cr.valuesF ⟨bl, bn, bac, bar⟩).1, .int .i64 (Cr.valuesF ⟨bl, bn, bac, bar⟩).2.1, .int .i64 (Cr.valuesF ⟨bl, bn, bac, bar⟩).2.2]) ∧ Below W.heap.size W w' := fun W => values_any bl bn bac bar W (by dsimp only at hlb; omega) hdb
      have hR : Halves.ref ⟨s1, true, c3, ⟨al, an, aac, aar⟩, true, ⟨bl, bn, bac, bar⟩, true⟩ = ⟨⟨s1.toArray⟩, Halves.kind ⟨s1, true, c3, ⟨al, an, aac, aar⟩, true, ⟨bl, bn, bac, bar⟩, true⟩, (Cr.valuesF ⟨al, an, aac, aar⟩).1, (Cr.valuesF ⟨al, an, aac, aar⟩).2.1, if c3 then (Cr.valuesF ⟨bl, bn, bac, bar⟩).1 else 0, if c3 then (Cr.valuesF ⟨bl, bn, bac, bar⟩).2.1 else 0, aar, aac, c3 && bar, c3 && bac⟩ := rfl
      generalize Cr.valuesF ⟨al, an, aac, aar⟩ = VA at *
      generalize Cr.valuesF ⟨bl, bn, bac, bar⟩ = VB at *
      obtain ⟨va1, va2, va3⟩ := VA
      obtain ⟨vb1, vb2, vb3⟩ := VB
      dsimp only at hF hR hvalA hvalB
      have HVA := Lib.hid hvalA
      have HVB := Lib.hid hvalB
      have HR := Lib.hid hR
      have HF2 := Lib.hid hF
      clear hvalA hvalB hR
      dsimp only at hla hlb
      clear hF HF OA OKB hda hdb HBAD
      have b0 := Blk.new wA 40 #[sv s1, .int .i64 0, .int .i64 0, .int .i64 0, .int .i64 0, .int .i64 0, .bool aar, .bool aac, .bool false, .bool false]
      have K := Lib.hid (And.intro b0 (And.intro (hca.alloc (.cells #[sv s1, .int .i64 0, .int .i64 0, .int .i64 0, .int .i64 0, .int .i64 0, .bool aar, .bool aac, .bool false, .bool false] 40)) (And.intro (hcb2.alloc (.cells #[sv s1, .int .i64 0, .int .i64 0, .int .i64 0, .int .i64 0, .int .i64 0, .bool aar, .bool aac, .bool false, .bool false] 40)) (And.intro (hres.alloc (.cells #[sv s1, .int .i64 0, .int .i64 0, .int .i64 0, .int .i64 0, .int .i64 0, .bool aar, .bool aac, .bool false, .bool false] 40)) (hbel.alloc (by omega) (.cells #[sv s1, .int .i64 0, .int .i64 0, .int .i64 0, .int .i64 0, .int .i64 0, .bool aar, .bool aac, .bool false, .bool false] 40))))))
      obtain ⟨k0, k1, j2, j3, _⟩ := K.out.2.1.four
      clear b0 hca hcb2 hres HRES HCA HCB hbel
      have hna : wA.heap.size ≠ w3.heap.size := by
        have := (K.out.2.1); have h2 := K.out.1; exact (Blk.ne_ h2 this (by decide))
      have hnb : wA.heap.size ≠ w3.heap.size + 1 := by
        have := (K.out.2.2.1); have h2 := K.out.1; exact (Blk.ne_ h2 this (by decide))
      go_upto_region 16 with fail
      go_cut [16] (fun v wx => v = .int .i64 va3 ∧ Blk wx wA.heap.size 40 #[sv s1, .int .i64 0, .int .i64 va1, .int .i64 va2, .int .i64 0, .int .i64 0, .bool aar, .bool aac, .bool false, .bool false] ∧ Blk wx w3.heap.size 140 #[sv al, sv an, .bool aac, .bool aar] ∧ Blk wx (w3.heap.size + 1) 140 #[sv bl, sv bn, .bool bac, .bool bar] ∧ Blk wx w.heap.size 40 Ref.zero.cs ∧ Below w.heap.size w wx)
      case first =>
        clear HF2
        go_wp2_with (first | (go_at_call 76; refine (HVA.out _).mono ?_; rintro e w5 ⟨rfl, hw⟩; obtain ⟨b0, a0, c0, r0, B0⟩ := K.out; have b1 := b0.later hw; have A1 := Lib.hid (a0.later hw); have C1 := Lib.hid (c0.later hw); have R1 := Lib.hid (r0.later hw); have B1 := below_tr B0 hw; have HB1 := Lib.hid b1; obtain ⟨_, _, d2, d3, _⟩ := b1.ten; obtain ⟨_, _, f2, f3, _⟩ := b1.tenf; clear hw b0 a0 c0 r0 B0 K b1))
        go_meet
        refine ⟨rfl, ?_, (A1.out.far hna.symm _).far hna.symm _, (C1.out.far hnb.symm _).far hnb.symm _, (R1.out.far (by show w.heap.size ≠ wA.heap.size; omega) _).far (by show w.heap.size ≠ wA.heap.size; omega) _, (B1.setCell (p := ⟨wA.heap.size, 2, none⟩) (by simp; omega) _).setCell (p := ⟨wA.heap.size, 3, none⟩) (by simp; omega) _⟩
        have := (HB1.out.set_ 2 (.int .i64 va1)).set_ 3 (.int .i64 va2)
        simpa using this
      case rest =>
      obtain ⟨rfl, hr1, ha1, hb1, hres1, hbel1⟩ := hcut
      clear K k0 k1 k2 k3 j2 j3
      cases hva : (va3 != 0)
      case true =>
        exfalso
        have hva' : va3 ≠ 0 := by simpa using hva
        exact hva' HY.out.1
      case false =>
      have hva' : va3 = 0 := by simpa using hva
      subst hva'
      clear hva
      obtain ⟨wB, rfl⟩ : ∃ wB : World, wB = wc := ⟨_, rfl⟩
      have hF3 := HF2.out
      rw [if_neg (by simp)] at hF3
      have HF3 := Lib.hid hF3
      clear hF3 HF2 HVA
      generalize hKD : Halves.kind ⟨s1, true, c3, ⟨al, an, aac, aar⟩, true, ⟨bl, bn, bac, bar⟩, true⟩ = KD at *
      have HKD := Lib.hid hKD
      clear hKD
      have hgr2 : w.heap.size ≠ wA.heap.size := by omega
      have K2 := Lib.hid (And.intro hr1 (And.intro ha1 (And.intro hb1 (And.intro hres1 hbel1))))
      clear hr1 ha1 hb1 hres1 hbel1
      go_upto_if 113 with fail
      go_cut [17] (fun v wx => v = .int .i64 0 ∧ Blk wx wA.heap.size 40 #[sv s1, .int .i64 KD, .int .i64 va1, .int .i64 va2, .int .i64 (if c3 then vb1 else 0), .int .i64 (if c3 then vb2 else 0), .bool aar, .bool aac, .bool (c3 && bar), .bool (c3 && bac)] ∧ Blk wx w.heap.size 40 Ref.zero.cs ∧ Below w.heap.size w wx ∧ (c3 = true → vb3 = 0))
      case first =>
        obtain ⟨hr1, ha1, hb1, hres1, hbel1⟩ := K2.out
        cases c3
        · have hk : KD = 0 := by rw [← HKD.out]; rfl
          subst hk
          have HX := Lib.hid hr1
          clear HKD HR HVB K2 hr1 ha1 hb1
          go_wp2_with fail
          go_meet
          exact ⟨rfl, HX.out, hres1, hbel1, fun h => by cases h⟩
        · have H1 := Lib.hid (And.intro hr1 (And.intro ha1 (And.intro hb1 (And.intro hres1 hbel1))))
          obtain ⟨m0, m1, m2, m3, _⟩ := hb1.four
          obtain ⟨_, d1, _, _, _, _, _, _, d8, d9⟩ := hr1.ten
          obtain ⟨_, f1, _, _, _, _, _, _, f8, f9⟩ := hr1.tenf
          clear K2 hr1 ha1 hb1 hres1 hbel1 HR
          go_upto_region 20 with fail
          go_cut [17] (fun v wx => v = .int .i64 0 ∧ Blk wx wA.heap.size 40 #[sv s1, .int .i64 1, .int .i64 va1, .int .i64 va2, .int .i64 0, .int .i64 0, .bool aar, .bool aac, .bool bar, .bool bac] ∧ Blk wx w3.heap.size 140 #[sv al, sv an, .bool aac, .bool aar] ∧ Blk wx (w3.heap.size + 1) 140 #[sv bl, sv bn, .bool bac, .bool bar] ∧ Blk wx w.heap.size 40 Ref.zero.cs ∧ Below w.heap.size w wx)
          case first =>
            clear HVB
            go_region
            go_wp2_with fail
            go_meet
            obtain ⟨hr1, ha1, hb1, hres1, hbel1⟩ := H1.out
            refine ⟨rfl, ?_, ((ha1.far hna.symm _).far hna.symm _).far hna.symm _, ((hb1.far hnb.symm _).far hnb.symm _).far hnb.symm _, ((hres1.far hgr2 _).far hgr2 _).far hgr2 _, (((hbel1.setCell (p := ⟨wA.heap.size, 1, none⟩) (by simp; omega) _).setCell (p := ⟨wA.heap.size, 8, none⟩) (by simp; omega) _).setCell (p := ⟨wA.heap.size, 9, none⟩) (by simp; omega) _).drew⟩
            have := ((hr1.set_ 1 (.int .i64 1)).set_ 8 (.bool bar)).set_ 9 (.bool bac)
            refine Blk.drew ?_
            simpa using this
          case rest =>
          obtain ⟨rfl, hr2, ha2, hb2, hres2, hbel2⟩ := hcut
          obtain ⟨wC, rfl⟩ : ∃ wC : World, wC = wc := ⟨_, rfl⟩
          clear H1 m0 m1 m2 m3 d1 d8 d9 f1 f8 f9
          have K3 := Lib.hid (And.intro hr2 (And.intro ha2 (And.intro hb2 (And.intro hres2 hbel2))))
          obtain ⟨m0, m1, m2, m3, _⟩ := hb2.four
          clear hr2 ha2 hb2 hres2 hbel2
          go_upto_region 21 with fail
          go_cut [17] (fun v wx => v = .int .i64 vb3 ∧ Blk wx wA.heap.size 40 #[sv s1, .int .i64 1, .int .i64 va1, .int .i64 va2, .int .i64 vb1, .int .i64 vb2, .bool aar, .bool aac, .bool bar, .bool bac] ∧ Blk wx w3.heap.size 140 #[sv al, sv an, .bool aac, .bool aar] ∧ Blk wx w.heap.size 40 Ref.zero.cs ∧ Below w.heap.size w wx)
          case first =>
            go_wp2_with (first | (go_at_call 76; refine (HVB.out _).mono ?_; rintro e w5 ⟨rfl, hw⟩; obtain ⟨b0, a0, c0, r0, B0⟩ := K3.out; have b1 := b0.later hw; have A1 := Lib.hid (a0.later hw); have R1 := Lib.hid (r0.later hw); have B1 := below_tr B0 hw; have HB1 := Lib.hid b1; obtain ⟨_, _, _, _, d4, d5, _⟩ := b1.ten; obtain ⟨_, _, _, _, f4, f5, _⟩ := b1.tenf; clear hw b0 a0 c0 r0 B0 K3 b1))
            go_meet
            refine ⟨rfl, ?_, (A1.out.far hna.symm _).far hna.symm _, (R1.out.far hgr2 _).far hgr2 _, (B1.setCell (p := ⟨wA.heap.size, 4, none⟩) (by simp; omega) _).setCell (p := ⟨wA.heap.size, 5, none⟩) (by simp; omega) _⟩
            have := (HB1.out.set_ 4 (.int .i64 vb1)).set_ 5 (.int .i64 vb2)
            simpa using this
          case rest =>
          obtain ⟨rfl, hr3, ha3, hres3, hbel3⟩ := hcut
          obtain ⟨wD, rfl⟩ : ∃ wD : World, wD = wc := ⟨_, rfl⟩
          clear K3 m0 m1 m2 m3 HVB
          cases hvb : (vb3 != 0)
          case true =>
            exfalso
            have hvb' : vb3 ≠ 0 := by simpa using hvb
            exact hvb' (HY.out.2 rfl)
          case false =>
          have hvb' : vb3 = 0 := by simpa using hvb
          subst hvb'
          clear hvb HF3
          obtain ⟨_, d1, _⟩ := hr3.ten
          obtain ⟨_, f1, _⟩ := hr3.tenf
          obtain ⟨k0, k1, _⟩ := ha3.four
          have X3 := Lib.hid (And.intro hr3 (And.intro hres3 hbel3))
          clear hr3 ha3 hres3 hbel3
          have hk : KD = if WH = true then 1 else if an = [] then 3 else 2 := by rw [← HKD.out, ← HWH.out]; rfl
          have HK := Lib.hid hk
          clear hk HKD
          cases WH
          · cases an with
            | nil =>
              have e : KD = 3 := by rw [HK.out]; rfl
              subst e
              have s1' := World.cell?_setCell_same wD ⟨wA.heap.size, 1, none⟩ (.int .i64 2) d1
              go_wp2_with fail
              go_meet
              refine ⟨rfl, ?_, (X3.out.2.1.far hgr2 _).far hgr2 _, (X3.out.2.2.setCell (p := ⟨wA.heap.size, 1, none⟩) (by simp; omega) _).setCell (p := ⟨wA.heap.size, 1, none⟩) (by simp; omega) _, by simp⟩
              have := (X3.out.1.set_ 1 (.int .i64 2)).set_ 1 (.int .i64 3)
              simpa using this
            | cons a0 at' =>
              have e : KD = 2 := by rw [HK.out]; rfl
              subst e
              go_wp2_with fail
              go_meet
              refine ⟨rfl, ?_, X3.out.2.1.far hgr2 _, X3.out.2.2.setCell (p := ⟨wA.heap.size, 1, none⟩) (by simp; omega) _, by simp⟩
              have := X3.out.1.set_ 1 (.int .i64 2)
              simpa using this
          · have e : KD = 1 := by rw [HK.out]; rfl
            subst e
            go_wp2_with fail
            go_meet
            exact ⟨rfl, X3.out.1, X3.out.2.1, X3.out.2.2, by simp⟩
      case rest =>
      obtain ⟨rfl, hr4, hres4, hbel4, hvb4⟩ := hcut
      obtain ⟨wE, rfl⟩ : ∃ wE : World, wE = wc := ⟨_, rfl⟩
      have hR := HR.out
      generalize hRR : Halves.ref ⟨s1, true, c3, ⟨al, an, aac, aar⟩, true, ⟨bl, bn, bac, bar⟩, true⟩ = R0 at *
      clear hRR
      have hF4 := HF3.out
      rw [if_neg (by intro h; exact h.2 (hvb4 h.1))] at hF4
      have HF4 := Lib.hid hF4
      clear hF4 HF3 HVB K2 HKD HWH hvb4
      generalize (if c3 = true then vb1 else 0) = ro2 at *
      generalize (if c3 = true then vb2 else 0) = co2 at *
      generalize (c3 && bar) = ar2 at *
      generalize (c3 && bac) = ac2 at *
      clear HR
      subst hR
      obtain ⟨x0, x1, x2, x3, x4, x5, x6, x7, x8, x9⟩ := hr4.ten
      have hord := fun W => ordered_any ⟨⟨s1.toArray⟩, KD, va1, va2, ro2, co2, aar, aac, ar2, ac2⟩ W
      have hsz : (Ref.ordered ⟨⟨s1.toArray⟩, KD, va1, va2, ro2, co2, aar, aac, ar2, ac2⟩).sheet.size ≤ maxLen := by
        rw [Ref.ordered_sheet, size_mk]; unfold maxLen; omega
      generalize Ref.ordered ⟨⟨s1.toArray⟩, KD, va1, va2, ro2, co2, aar, aac, ar2, ac2⟩ = O at *
      have HORD := Lib.hid hord
      have HSZ := Lib.hid hsz
      clear hord hsz
      have X4 := Lib.hid (And.intro hr4 (And.intro hres4 hbel4))
      clear hr4 hres4 hbel4
      go_upto_region 28 with fail
      go_cut [] (fun wx => Blk wx wA.heap.size 40 #[.string O.sheet, .int .i64 O.kind, .int .i64 O.row, .int .i64 O.col, .int .i64 O.row2, .int .i64 O.col2, .bool O.ar, .bool O.ac, .bool O.ar2, .bool O.ac2] ∧ Blk wx w.heap.size 40 Ref.zero.cs ∧ Below w.heap.size w wx)
      case first =>
        clear HF4 HSZ
        go_wp2_with (first | (go_at_call 77; refine (HORD.out _).mono ?_; rintro e w6 ⟨rfl, hw⟩; obtain ⟨h4, r4, B4⟩ := X4.out; have b1 := h4.later hw; have HB1 := Lib.hid b1; have R1 := Lib.hid (r4.later hw); have B1 := below_tr B4 hw; obtain ⟨d0, d1, d2, d3, d4, d5, d6, d7, d8, d9⟩ := b1.ten; obtain ⟨f0, f1, f2, f3, f4, f5, f6, f7, f8, f9⟩ := b1.tenf; clear hw h4 r4 B4 X4 b1 x0 x1 x2 x3 x4 x5 x6 x7 x8 x9))
        go_meet
        exact ⟨(HB1.out.ten_set _ _ _ _ _ _ _ _ _ _).1, R1.out.ten_far hgr2 _ _ _ _ _ _ _ _ _ _, below_ten B1 (by omega) _ _ _ _ _ _ _ _ _ _⟩
      case rest =>
      obtain ⟨hr5, hres5, hbel5⟩ := hcut
      obtain ⟨wF, rfl⟩ : ∃ wF : World, wF = wc := ⟨_, rfl⟩
      clear x0 x1 x2 x3 x4 x5 x6 x7 x8 x9 X4 HORD
      obtain ⟨x0, x1, x2, x3, x4, x5, x6, x7, x8, x9⟩ := hr5.ten
      have X5 := Lib.hid (And.intro hr5 (And.intro hres5 hbel5))
      clear hr5 hres5 hbel5
      go_upto_region 29 with fail
      go_cut [18] (fun v wx => v = .int .i64 O.check ∧ Blk wx wA.heap.size 40 #[.string O.sheet, .int .i64 O.kind, .int .i64 O.row, .int .i64 O.col, .int .i64 O.row2, .int .i64 O.col2, .bool O.ar, .bool O.ac, .bool O.ar2, .bool O.ac2] ∧ Blk wx w.heap.size 40 Ref.zero.cs ∧ Below w.heap.size w wx)
      case first =>
        clear HF4
        go_wp2_with (first | (go_at_call 15; refine (check_any O _ HSZ.out).mono ?_; rintro e w7 ⟨rfl, hw⟩))
        go_meet
        obtain ⟨h4, r4, B4⟩ := X5.out
        exact ⟨rfl, h4.later (by assumption), r4.later (by assumption), below_tr B4 (by assumption)⟩
      case rest =>
      obtain ⟨rfl, hr6, hres6, hbel6⟩ := hcut
      obtain ⟨wG, rfl⟩ : ∃ wG : World, wG = wc := ⟨_, rfl⟩
      clear x0 x1 x2 x3 x4 x5 x6 x7 x8 x9 X5 HSZ
      cases hck : (O.check != 0)
      case true =>
        have hck' : O.check ≠ 0 := by simpa using hck
        have hpf : parseF l = (Ref.zero, O.check) := by rw [HF4.out, if_pos hck']
        have HPF := Lib.hid hpf
        clear hpf HF4 hck' hr6
        obtain ⟨z0, z1, z2, z3, z4, z5, z6, z7, z8, z9⟩ := hres6.ten
        obtain ⟨q0, q1, q2, q3, q4, q5, q6, q7, q8, q9⟩ := hres6.tenf
        go_upto_region 31 with fail
        iterate 18 (try go_step)
        obtain ⟨_, n0, n1, n2, n3, n4, n5, n6, n7, n8, n9⟩ := hres6.ten_set (.string ⟨#[]⟩) (.int .i64 0) (.int .i64 0) (.int .i64 0) (.int .i64 0) (.int .i64 0) (.bool false) (.bool false) (.bool false) (.bool false)
        refine bodyPost_ret (v := .tuple #[.agg #[.string ⟨#[]⟩, .int .i64 0, .int .i64 0, .int .i64 0, .int .i64 0, .int .i64 0, .bool false, .bool false, .bool false, .bool false], .int .i64 O.check]) (by simp [results, Tryd.results33, go_sem, n0, n1, n2, n3, n4, n5, n6, n7, n8, n9]) rfl ⟨by rw [HPF.out]; rfl, below_ten hbel6 (Nat.le_refl _) _ _ _ _ _ _ _ _ _ _⟩
      case false =>
        have hck' : O.check = 0 := by simpa using hck
        have hpf : parseF l = (O, 0) := by rw [HF4.out, if_neg (by rw [hck']; simp)]
        have HPF := Lib.hid hpf
        clear hpf HF4 hck'
        obtain ⟨x0, x1, x2, x3, x4, x5, x6, x7, x8, x9⟩ := hr6.ten
        obtain ⟨z0, z1, z2, z3, z4, z5, z6, z7, z8, z9⟩ := hres6.ten
        obtain ⟨q0, q1, q2, q3, q4, q5, q6, q7, q8, q9⟩ := hres6.tenf
        go_upto_region 32 with fail
        iterate 18 (try go_step)
        obtain ⟨_, n0, n1, n2, n3, n4, n5, n6, n7, n8, n9⟩ := hres6.ten_set (.string O.sheet) (.int .i64 O.kind) (.int .i64 O.row) (.int .i64 O.col) (.int .i64 O.row2) (.int .i64 O.col2) (.bool O.ar) (.bool O.ac) (.bool O.ar2) (.bool O.ac2)
        refine bodyPost_ret (v := .tuple #[.agg #[.string O.sheet, .int .i64 O.kind, .int .i64 O.row, .int .i64 O.col, .int .i64 O.row2, .int .i64 O.col2, .bool O.ar, .bool O.ac, .bool O.ar2, .bool O.ac2], .int .i64 0]) (by simp [results, Tryd.results33, go_sem, n0, n1, n2, n3, n4, n5, n6, n7, n8, n9]) rfl ⟨by rw [HPF.out], below_ten hbel6 (Nat.le_refl _) _ _ _ _ _ _ _ _ _ _⟩
end Go.Proofs.YtjgojbkmeggmhaaDoor
