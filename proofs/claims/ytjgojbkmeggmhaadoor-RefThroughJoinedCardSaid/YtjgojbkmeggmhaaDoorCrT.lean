/- The contract of cellref.place. -/
import Derived.Test.YtjgojbkmeggmhaaDoorCrS
import Derived.RegionTactic
import Derived.ChangeAlike
namespace Go.Proofs.YtjgojbkmeggmhaaDoor
open Go.RowKit

theorem toList_mk (l : List UInt8) : (⟨l.toArray⟩ : ByteArray).toList = l := by rw [Lib.toList_data]
theorem ext01 (c : UInt8) (t : List UInt8) : (⟨(c :: t).toArray⟩ : ByteArray).extract 0 1 = ⟨[c].toArray⟩ := by rw [Lib.extract_eq]; rfl
theorem ext1 (c : UInt8) (t : List UInt8) (n : Nat) (hn : n = t.length + 1) : (⟨(c :: t).toArray⟩ : ByteArray).extract 1 n = ⟨t.toArray⟩ := by
  rw [Lib.extract_eq]; subst hn; simp

/-- The two corners of place's own memory: its result's (still zero) and c. -/
def PlaceAt (w : World) (ls num : List UInt8) (ac ar : Bool) (wr : World) : Prop :=
  wr.heap[w.heap.size + 1]? = some (.cells #[sv ls, sv num, .bool ac, .bool ar] 140 (0, 0)) ∧
  wr.heap[w.heap.size]? = some (.cells #[sv [], sv [], .bool false, .bool false] 140 (0, 0)) ∧ Below w.heap.size w wr

theorem PlaceAt.facts {w wr : World} {ls num : List UInt8} {ac ar : Bool} (h : PlaceAt w ls num ac ar wr) :
    wr.cell? ⟨w.heap.size + 1, 0, none⟩ = some (sv ls) ∧ wr.cell? ⟨w.heap.size + 1, 1, none⟩ = some (sv num) ∧ wr.cell? ⟨w.heap.size + 1, 2, none⟩ = some (.bool ac) ∧ wr.cell? ⟨w.heap.size + 1, 3, none⟩ = some (.bool ar) ∧
    wr.frozen? ⟨w.heap.size + 1, 0, none⟩ = false ∧ wr.frozen? ⟨w.heap.size + 1, 1, none⟩ = false ∧ wr.frozen? ⟨w.heap.size + 1, 2, none⟩ = false ∧ wr.frozen? ⟨w.heap.size + 1, 3, none⟩ = false ∧
    wr.cell? ⟨w.heap.size, 0, none⟩ = some (sv []) ∧ wr.cell? ⟨w.heap.size, 1, none⟩ = some (sv []) ∧ wr.cell? ⟨w.heap.size, 2, none⟩ = some (.bool false) ∧ wr.cell? ⟨w.heap.size, 3, none⟩ = some (.bool false) ∧
    wr.frozen? ⟨w.heap.size, 0, none⟩ = false ∧ wr.frozen? ⟨w.heap.size, 1, none⟩ = false ∧ wr.frozen? ⟨w.heap.size, 2, none⟩ = false ∧ wr.frozen? ⟨w.heap.size, 3, none⟩ = false := by
  obtain ⟨h1, h0, _⟩ := h
  exact ⟨Lib.cell_of_heap h1 0, Lib.cell_of_heap h1 1, Lib.cell_of_heap h1 2, Lib.cell_of_heap h1 3, Lib.frozen_of_heap h1 0, Lib.frozen_of_heap h1 1, Lib.frozen_of_heap h1 2, Lib.frozen_of_heap h1 3,
    Lib.cell_of_heap h0 0, Lib.cell_of_heap h0 1, Lib.cell_of_heap h0 2, Lib.cell_of_heap h0 3, Lib.frozen_of_heap h0 0, Lib.frozen_of_heap h0 1, Lib.frozen_of_heap h0 2, Lib.frozen_of_heap h0 3⟩

theorem PlaceAt.drew {w wr : World} {ls num : List UInt8} {ac ar : Bool} (h : PlaceAt w ls num ac ar wr) : PlaceAt w ls num ac ar wr.drew := ⟨h.1, h.2.1, h.2.2.drew⟩
theorem PlaceAt.set0 {w wr : World} {ls num : List UInt8} {ac ar : Bool} (h : PlaceAt w ls num ac ar wr) (x : List UInt8) : PlaceAt w x num ac ar (wr.setCell ⟨w.heap.size + 1, 0, none⟩ (sv x)) := by
  obtain ⟨h1, h0, hb⟩ := h
  exact ⟨by simp [World.setCell, Array.getElem?_modify, h1], by simp [World.setCell, Array.getElem?_modify, h0], hb.setCell (p := ⟨w.heap.size + 1, 0, none⟩) (by simp) _⟩
theorem PlaceAt.set1 {w wr : World} {ls num : List UInt8} {ac ar : Bool} (h : PlaceAt w ls num ac ar wr) (x : List UInt8) : PlaceAt w ls x ac ar (wr.setCell ⟨w.heap.size + 1, 1, none⟩ (sv x)) := by
  obtain ⟨h1, h0, hb⟩ := h
  exact ⟨by simp [World.setCell, Array.getElem?_modify, h1], by simp [World.setCell, Array.getElem?_modify, h0], hb.setCell (p := ⟨w.heap.size + 1, 1, none⟩) (by simp) _⟩
theorem PlaceAt.set2 {w wr : World} {ls num : List UInt8} {ac ar : Bool} (h : PlaceAt w ls num ac ar wr) (x : Bool) : PlaceAt w ls num x ar (wr.setCell ⟨w.heap.size + 1, 2, none⟩ (.bool x)) := by
  obtain ⟨h1, h0, hb⟩ := h
  exact ⟨by simp [World.setCell, Array.getElem?_modify, h1], by simp [World.setCell, Array.getElem?_modify, h0], hb.setCell (p := ⟨w.heap.size + 1, 2, none⟩) (by simp) _⟩
theorem PlaceAt.set3 {w wr : World} {ls num : List UInt8} {ac ar : Bool} (h : PlaceAt w ls num ac ar wr) (x : Bool) : PlaceAt w ls num ac x (wr.setCell ⟨w.heap.size + 1, 3, none⟩ (.bool x)) := by
  obtain ⟨h1, h0, hb⟩ := h
  exact ⟨by simp [World.setCell, Array.getElem?_modify, h1], by simp [World.setCell, Array.getElem?_modify, h0], hb.setCell (p := ⟨w.heap.size + 1, 3, none⟩) (by simp) _⟩

theorem four_cells {wc : World} {b : Nat} {x0 x1 x2 x3 : Value} (y0 y1 y2 y3 : Value) (d0 : wc.cell? ⟨b, 0, none⟩ = some x0) (d1 : wc.cell? ⟨b, 1, none⟩ = some x1) (d2 : wc.cell? ⟨b, 2, none⟩ = some x2) (d3 : wc.cell? ⟨b, 3, none⟩ = some x3) :
    (wc.setCell ⟨b, 0, none⟩ y0).cell? ⟨b, 0, none⟩ = some y0 ∧ ((wc.setCell ⟨b, 0, none⟩ y0).setCell ⟨b, 1, none⟩ y1).cell? ⟨b, 1, none⟩ = some y1 ∧
    (((wc.setCell ⟨b, 0, none⟩ y0).setCell ⟨b, 1, none⟩ y1).setCell ⟨b, 2, none⟩ y2).cell? ⟨b, 2, none⟩ = some y2 ∧
    ((((wc.setCell ⟨b, 0, none⟩ y0).setCell ⟨b, 1, none⟩ y1).setCell ⟨b, 2, none⟩ y2).setCell ⟨b, 3, none⟩ y3).cell? ⟨b, 3, none⟩ = some y3 := by
  have e1 := (World.cell?_setCell_other wc ⟨b, 0, none⟩ ⟨b, 1, none⟩ y0 (by simp)).trans d1
  have e2 := (World.cell?_setCell_other wc ⟨b, 0, none⟩ ⟨b, 2, none⟩ y0 (by simp)).trans d2
  have e3 := (World.cell?_setCell_other wc ⟨b, 0, none⟩ ⟨b, 3, none⟩ y0 (by simp)).trans d3
  have g2 := (World.cell?_setCell_other _ ⟨b, 1, none⟩ ⟨b, 2, none⟩ y1 (by simp)).trans e2
  have g3 := (World.cell?_setCell_other _ ⟨b, 1, none⟩ ⟨b, 3, none⟩ y1 (by simp)).trans e3
  have k3 := (World.cell?_setCell_other _ ⟨b, 2, none⟩ ⟨b, 3, none⟩ y2 (by simp)).trans g3
  exact ⟨World.cell?_setCell_same wc _ y0 d0, World.cell?_setCell_same _ _ y1 e1, World.cell?_setCell_same _ _ y2 g2, World.cell?_setCell_same _ _ y3 k3⟩

set_option maxRecDepth 100000 in
set_option maxHeartbeats 4000000 in
theorem place_any (l : List UInt8) (w : World) (hl : l.length ≤ 100000) :
    Calls Tryd.prog 75 #[sv l] w fun e w' => e = .returned (.tuple #[.agg #[sv (Cr.placeF l).1.letters, sv (Cr.placeF l).1.number, .bool (Cr.placeF l).1.ac, .bool (Cr.placeF l).1.ar], .bool (Cr.placeF l).2]) ∧ Below w.heap.size w w' := by
  have hcut := fun (l : List UInt8) W => Tryd.strings_CutPrefix ⟨l.toArray⟩ ⟨#[36]⟩ W
  have HC := Lib.hid hcut
  clear hcut
  have h0l : (Lib.trimPrefix l [36]).length ≤ 100000 := by
    unfold Lib.trimPrefix; split
    · simp; omega
    · exact hl
  go_enter Tryd.func75, Tryd.ntmps75
  go_upto_block 0 with (first | (go_at_call 97; refine (HC.out l _).mono ?_; rintro e w1 ⟨rfl, hw⟩; obtain rfl := hw.symm; clear hw))
  go_cut [0] (fun v wx => v = sv ((Lib.trimPrefix l [36]).dropWhile Cr.ltr) ∧ PlaceAt w ((Lib.trimPrefix l [36]).takeWhile Cr.ltr) [] (Lib.hasPrefix l [36]) false wx)
  case first =>
    have ha : PlaceAt w [] [] (Lib.hasPrefix l [36]) false ((w.alloc (.cells #[.string ⟨#[]⟩, .string ⟨#[]⟩, .bool false, .bool false] 140)).alloc (.cells #[.string ⟨#[]⟩, .string ⟨#[]⟩, .bool (Lib.hasPrefix l [36]), .bool false] 140)) := by
      refine ⟨?_, ?_, ((Below.refl _ _).alloc (Nat.le_refl _) _).alloc (by simp) _⟩
      · have := heap_alloc_new (w.alloc (.cells #[.string ⟨#[]⟩, .string ⟨#[]⟩, .bool false, .bool false] 140)) (.cells #[.string ⟨#[]⟩, .string ⟨#[]⟩, .bool (Lib.hasPrefix l [36]), .bool false] 140)
        simpa using this
      · rw [Below.heap_alloc _ _ _ (by simp)]
        exact heap_alloc_new _ _
    clear HC
    go_wp2_with fail
    go_loopw [0] (fun v wr => ∃ ls r : List UInt8, v = sv r ∧ ls.length + r.length ≤ 100000 ∧ PlaceAt w ls [] (Lib.hasPrefix l [36]) false wr ∧ (Lib.trimPrefix l [36]).takeWhile Cr.ltr = ls ++ r.takeWhile Cr.ltr ∧ (Lib.trimPrefix l [36]).dropWhile Cr.ltr = r.dropWhile Cr.ltr) (fun v _ => match v with | .string s => s.size | _ => 0)
    case atStart => exact ⟨[], _, rfl, by simpa using h0l, ha, by simp, rfl⟩
    case round =>
      obtain ⟨ls, r, rfl, hlr, hP, h1, h2⟩ := hrel
      have H1 := Lib.hid h1
      have H2 := Lib.hid h2
      clear h1 h2 ha
      obtain ⟨c0, c1, c2, c3, f0, f1, f2, f3, _⟩ := hP.facts
      cases r with
      | nil =>
        go_wp2_with fail
        go_meet
        exact ⟨by rw [H2.out]; rfl, by rw [H1.out]; simpa using hP⟩
      | cons c t =>
        have hi0 : ∀ h, (⟨(c :: t).toArray⟩ : ByteArray)[0]'h = c := fun _ => rfl
        have e01 := ext01 c t
        have e1 := ext1 c t (t.length + 1) rfl
        have hbd : ¬ 9223372036854775807 < ls.length + 1 := by simp at hlr; omega
        cases hc : Cr.letterI (c.toNat : Int)
        · go_wp2_with (first | (go_at_call 99; refine (letter_any _ _).mono ?_; rintro e w' ⟨rfl, rfl⟩))
          go_meet
          exact ⟨by rw [H2.out]; simp [Cr.ltr, hc], by rw [H1.out]; simpa [Cr.ltr, hc] using hP⟩
        · go_wp2_with (first | (go_at_call 99; refine (letter_any _ _).mono ?_; rintro e w' ⟨rfl, rfl⟩))
          go_region
          go_roundw
          case rel =>
            have hP2 := (hP.set0 (ls ++ [c])).drew
            rw [show sv (ls ++ [c]) = .string (⟨ls.toArray⟩ ++ ⟨#[c]⟩) from by rw [show (⟨#[c]⟩ : ByteArray) = ⟨[c].toArray⟩ from rfl, cat_cons]] at hP2
            repeat apply Exists.intro
            exact ⟨⟨ls ++ [c], t, rfl, by simp at hlr ⊢; omega, hP2, by rw [H1.out]; simp [Cr.ltr, hc], by rw [H2.out]; simp [Cr.ltr, hc]⟩, rfl⟩
          case measure => simp [ByteArray.size]
  case rest =>
    obtain ⟨rfl, hP⟩ := hcut
    have hrl : ((Lib.trimPrefix l [36]).dropWhile Cr.ltr).length ≤ 100000 := Nat.le_trans (List.dropWhile_sublist _).length_le h0l
    have hll : ((Lib.trimPrefix l [36]).takeWhile Cr.ltr).length ≤ 100000 := Nat.le_trans (List.takeWhile_sublist _).length_le h0l
    have hmid : Cr.placeMid l = if (Lib.trimPrefix l [36]).takeWhile Cr.ltr = [] then ((Lib.trimPrefix l [36]).takeWhile Cr.ltr, false, Lib.hasPrefix l [36], (Lib.trimPrefix l [36]).dropWhile Cr.ltr)
        else if (Lib.trimPrefix l [36]).dropWhile Cr.ltr = [] then ((Lib.trimPrefix l [36]).takeWhile Cr.ltr, Lib.hasPrefix l [36], false, (Lib.trimPrefix l [36]).dropWhile Cr.ltr)
        else ((Lib.trimPrefix l [36]).takeWhile Cr.ltr, Lib.hasPrefix l [36], Lib.hasPrefix ((Lib.trimPrefix l [36]).dropWhile Cr.ltr) [36], Lib.trimPrefix ((Lib.trimPrefix l [36]).dropWhile Cr.ltr) [36]) := rfl
    have hF : Cr.placeF l = (⟨(Cr.placeMid l).1, (Cr.placeMid l).2.2.2.takeWhile Cr.dgt, (Cr.placeMid l).2.1, (Cr.placeMid l).2.2.1⟩, decide ((Cr.placeMid l).2.2.2.dropWhile Cr.dgt = []) && Cr.good (Cr.placeMid l).1 ((Cr.placeMid l).2.2.2.takeWhile Cr.dgt) (Cr.placeMid l).2.2.1) := rfl
    generalize Cr.placeMid l = M at *
    generalize (Lib.trimPrefix l [36]).takeWhile Cr.ltr = ls at *
    generalize (Lib.trimPrefix l [36]).dropWhile Cr.ltr = r at *
    generalize Lib.hasPrefix l [36] = d at *
    have HM := Lib.hid hmid
    have HF := Lib.hid hF
    clear hmid hF
    obtain ⟨c0, c1, c2, c3, f0, f1, f2, f3, _⟩ := hP.facts
    go_upto_if 29 with fail
    go_cut [0] (fun v wx => v = sv M.2.2.2 ∧ M.2.2.2.length ≤ 100000 ∧ PlaceAt w M.1 [] M.2.1 M.2.2.1 wx)
    case first =>
      cases ls with
      | nil =>
        rw [if_pos rfl] at HM
        have hm := HM.out
        subst hm
        have hP2 := (hP.set3 d).set2 false
        clear HM
        go_wp2_with fail
        go_meet
        exact ⟨rfl, hrl, hP2⟩
      | cons a t =>
        rw [if_neg (by simp)] at HM
        cases r with
        | nil =>
          rw [if_pos rfl] at HM
          have hm := HM.out
          subst hm
          clear HM
          go_wp2_with fail
          go_meet
          exact ⟨rfl, hrl, hP⟩
        | cons b u =>
          rw [if_neg (by simp)] at HM
          have hm := HM.out
          subst hm
          clear HM
          have hP2 := hP.set3 (Lib.hasPrefix (b :: u) [36])
          have hlen : (Lib.trimPrefix (b :: u) [36]).length ≤ 100000 := by
            unfold Lib.trimPrefix; split
            · simp at hrl ⊢; omega
            · exact hrl
          go_wp2_with (first | (go_at_call 97; refine (HC.out (b :: u) _).mono ?_; rintro e w1 ⟨rfl, hw⟩; obtain rfl := hw.symm; clear hw))
          go_meet
          exact ⟨rfl, hlen, hP2⟩
    case rest =>
      obtain ⟨rfl, hml, hP3⟩ := hcut
      clear hP c0 c1 c2 c3 f0 f1 f2 f3 HM HC
      obtain ⟨m1, m2, m3, m4⟩ := M
      dsimp only at *
      clear hrl hll h0l
      go_upto_block 2 with fail
      go_cut [0] (fun v wx => v = sv (m4.dropWhile Cr.dgt) ∧ PlaceAt w m1 (m4.takeWhile Cr.dgt) m2 m3 wx)
      case first =>
        go_wp2_with fail
        go_loopw [0] (fun v wr => ∃ ls r : List UInt8, v = sv r ∧ ls.length + r.length ≤ 100000 ∧ PlaceAt w m1 ls m2 m3 wr ∧ m4.takeWhile Cr.dgt = ls ++ r.takeWhile Cr.dgt ∧ m4.dropWhile Cr.dgt = r.dropWhile Cr.dgt) (fun v _ => match v with | .string s => s.size | _ => 0)
        case atStart => exact ⟨[], _, rfl, by simpa using hml, hP3, by simp, rfl⟩
        case round =>
          obtain ⟨ls, r, rfl, hlr, hP, h1, h2⟩ := hrel
          have H1 := Lib.hid h1
          have H2 := Lib.hid h2
          clear h1 h2 hP3
          obtain ⟨c0, c1, c2, c3, f0, f1, f2, f3, _⟩ := hP.facts
          cases r with
          | nil =>
            go_wp2_with fail
            go_meet
            exact ⟨by rw [H2.out]; rfl, by rw [H1.out]; simpa using hP⟩
          | cons c t =>
            have hi0 : ∀ h, (⟨(c :: t).toArray⟩ : ByteArray)[0]'h = c := fun _ => rfl
            have e01 := ext01 c t
            have e1 := ext1 c t (t.length + 1) rfl
            have hbd : ¬ 9223372036854775807 < ls.length + 1 := by simp at hlr; omega
            cases hc : Cr.digitI (c.toNat : Int)
            · go_wp2_with (first | (go_at_call 100; refine (digit_any _ _).mono ?_; rintro e w' ⟨rfl, rfl⟩))
              go_meet
              exact ⟨by rw [H2.out]; simp [Cr.dgt, hc], by rw [H1.out]; simpa [Cr.dgt, hc] using hP⟩
            · go_wp2_with (first | (go_at_call 100; refine (digit_any _ _).mono ?_; rintro e w' ⟨rfl, rfl⟩))
              go_region
              go_roundw
              case rel =>
                have hP2 := (hP.set1 (ls ++ [c])).drew
                rw [show sv (ls ++ [c]) = .string (⟨ls.toArray⟩ ++ ⟨#[c]⟩) from by rw [show (⟨#[c]⟩ : ByteArray) = ⟨[c].toArray⟩ from rfl, cat_cons]] at hP2
                repeat apply Exists.intro
                exact ⟨⟨ls ++ [c], t, rfl, by simp at hlr ⊢; omega, hP2, by rw [H1.out]; simp [Cr.dgt, hc], by rw [H2.out]; simp [Cr.dgt, hc]⟩, rfl⟩
              case measure => simp [ByteArray.size]
      case rest =>
        obtain ⟨rfl, hP⟩ := hcut
        clear hP3 hml
        generalize m4.takeWhile Cr.dgt = num at *
        generalize m4.dropWhile Cr.dgt = r at *
        have hpre := fun W => Tryd.strings_HasPrefix ⟨num.toArray⟩ ⟨#[48]⟩ W
        rw [show (⟨#[48]⟩ : ByteArray).data.toList = [48] from rfl, show (⟨num.toArray⟩ : ByteArray).data.toList = num from rfl] at hpre
        have HQ := Lib.hid hpre
        clear hpre
        obtain ⟨c0, c1, c2, c3, f0, f1, f2, f3, d0, d1, d2, d3, q0, q1, q2, q3⟩ := hP.facts
        have hBel := hP.2.2
        clear hP
        obtain ⟨s0, s1, s2, s3⟩ := four_cells (sv m1) (sv num) (.bool m2) (.bool m3) d0 d1 d2 d3
        by_cases g1 : m1.length ≤ 7
        case neg =>
          have hgood : Cr.good (m1) (num) m3 = false := by simp [Cr.good, g1]
          have HG := Lib.hid hgood
          clear hgood
          cases r with
          | nil =>
            go_wp2_with (first | (go_at_call 27; refine (HQ.out _).mono ?_; rintro e w1 ⟨rfl, hw⟩; obtain rfl := hw.symm; clear hw))
            refine bodyPost_ret (v := .tuple #[.agg #[sv (m1), sv (num), .bool m2, .bool m3], .bool false]) (by simp [results, Tryd.results75, go_sem, s0, s1, s2, s3]) rfl ?_
            exact ⟨by rw [HF.out, HG.out]; rfl, by go_grown⟩
          | cons r0 rt =>
            go_wp2_with (first | (go_at_call 27; refine (HQ.out _).mono ?_; rintro e w1 ⟨rfl, hw⟩; obtain rfl := hw.symm; clear hw))
            refine bodyPost_ret (v := .tuple #[.agg #[sv (m1), sv (num), .bool m2, .bool m3], .bool false]) (by simp [results, Tryd.results75, go_sem, s0, s1, s2, s3]) rfl ?_
            exact ⟨by rw [HF.out, HG.out]; rfl, by go_grown⟩
        by_cases g2 : num.length ≤ 10
        case neg =>
          have hgood : Cr.good (m1) (num) m3 = false := by simp [Cr.good, g2]
          have HG := Lib.hid hgood
          clear hgood
          cases r with
          | nil =>
            go_wp2_with (first | (go_at_call 27; refine (HQ.out _).mono ?_; rintro e w1 ⟨rfl, hw⟩; obtain rfl := hw.symm; clear hw))
            refine bodyPost_ret (v := .tuple #[.agg #[sv (m1), sv (num), .bool m2, .bool m3], .bool false]) (by simp [results, Tryd.results75, go_sem, s0, s1, s2, s3]) rfl ?_
            exact ⟨by rw [HF.out, HG.out]; rfl, by go_grown⟩
          | cons r0 rt =>
            go_wp2_with (first | (go_at_call 27; refine (HQ.out _).mono ?_; rintro e w1 ⟨rfl, hw⟩; obtain rfl := hw.symm; clear hw))
            refine bodyPost_ret (v := .tuple #[.agg #[sv (m1), sv (num), .bool m2, .bool m3], .bool false]) (by simp [results, Tryd.results75, go_sem, s0, s1, s2, s3]) rfl ?_
            exact ⟨by rw [HF.out, HG.out]; rfl, by go_grown⟩
        cases g3 : Lib.hasPrefix num [48]
        case true =>
          have hgood : Cr.good (m1) (num) m3 = false := by simp [Cr.good, g3]
          have HG := Lib.hid hgood
          clear hgood
          cases r with
          | nil =>
            go_wp2_with (first | (go_at_call 27; refine (HQ.out _).mono ?_; rintro e w1 ⟨rfl, hw⟩; obtain rfl := hw.symm; clear hw))
            refine bodyPost_ret (v := .tuple #[.agg #[sv (m1), sv (num), .bool m2, .bool m3], .bool false]) (by simp [results, Tryd.results75, go_sem, s0, s1, s2, s3]) rfl ?_
            exact ⟨by rw [HF.out, HG.out]; rfl, by go_grown⟩
          | cons r0 rt =>
            go_wp2_with (first | (go_at_call 27; refine (HQ.out _).mono ?_; rintro e w1 ⟨rfl, hw⟩; obtain rfl := hw.symm; clear hw))
            refine bodyPost_ret (v := .tuple #[.agg #[sv (m1), sv (num), .bool m2, .bool m3], .bool false]) (by simp [results, Tryd.results75, go_sem, s0, s1, s2, s3]) rfl ?_
            exact ⟨by rw [HF.out, HG.out]; rfl, by go_grown⟩
        cases num with
        | cons n0 nt =>
          have hgood : Cr.good (m1) (n0 :: nt) m3 = true := by simp [Cr.good, g1, g3]; simpa using g2
          simp only [List.length_cons] at g2
          have HG := Lib.hid hgood
          clear hgood
          cases r with
          | nil =>
            go_wp2_with (first | (go_at_call 27; refine (HQ.out _).mono ?_; rintro e w1 ⟨rfl, hw⟩; obtain rfl := hw.symm; clear hw))
            refine bodyPost_ret (v := .tuple #[.agg #[sv (m1), sv (n0 :: nt), .bool m2, .bool m3], .bool true]) (by simp [results, Tryd.results75, go_sem, s0, s1, s2, s3]) rfl ?_
            exact ⟨by rw [HF.out, HG.out]; rfl, by go_grown⟩
          | cons r0 rt =>
            go_wp2_with (first | (go_at_call 27; refine (HQ.out _).mono ?_; rintro e w1 ⟨rfl, hw⟩; obtain rfl := hw.symm; clear hw))
            refine bodyPost_ret (v := .tuple #[.agg #[sv (m1), sv (n0 :: nt), .bool m2, .bool m3], .bool false]) (by simp [results, Tryd.results75, go_sem, s0, s1, s2, s3]) rfl ?_
            exact ⟨by rw [HF.out, HG.out]; rfl, by go_grown⟩
        | nil =>
          cases m1 with
          | nil =>
            have hgood : Cr.good ([]) ([]) m3 = false := by simp [Cr.good]
            have HG := Lib.hid hgood
            clear hgood
            cases r with
            | nil =>
              go_wp2_with (first | (go_at_call 27; refine (HQ.out _).mono ?_; rintro e w1 ⟨rfl, hw⟩; obtain rfl := hw.symm; clear hw))
              refine bodyPost_ret (v := .tuple #[.agg #[sv ([]), sv ([]), .bool m2, .bool m3], .bool false]) (by simp [results, Tryd.results75, go_sem, s0, s1, s2, s3]) rfl ?_
              exact ⟨by rw [HF.out, HG.out]; rfl, by go_grown⟩
            | cons r0 rt =>
              go_wp2_with (first | (go_at_call 27; refine (HQ.out _).mono ?_; rintro e w1 ⟨rfl, hw⟩; obtain rfl := hw.symm; clear hw))
              refine bodyPost_ret (v := .tuple #[.agg #[sv ([]), sv ([]), .bool m2, .bool m3], .bool false]) (by simp [results, Tryd.results75, go_sem, s0, s1, s2, s3]) rfl ?_
              exact ⟨by rw [HF.out, HG.out]; rfl, by go_grown⟩
          | cons l0 lt =>
            cases m3
            · have hgood : Cr.good (l0 :: lt) ([]) false = true := by simp [Cr.good, g3]; simpa using g1
              simp only [List.length_cons] at g1
              have HG := Lib.hid hgood
              clear hgood
              cases r with
              | nil =>
                go_wp2_with (first | (go_at_call 27; refine (HQ.out _).mono ?_; rintro e w1 ⟨rfl, hw⟩; obtain rfl := hw.symm; clear hw))
                refine bodyPost_ret (v := .tuple #[.agg #[sv (l0 :: lt), sv ([]), .bool m2, .bool false], .bool true]) (by simp [results, Tryd.results75, go_sem, s0, s1, s2, s3]) rfl ?_
                exact ⟨by rw [HF.out, HG.out]; rfl, by go_grown⟩
              | cons r0 rt =>
                go_wp2_with (first | (go_at_call 27; refine (HQ.out _).mono ?_; rintro e w1 ⟨rfl, hw⟩; obtain rfl := hw.symm; clear hw))
                refine bodyPost_ret (v := .tuple #[.agg #[sv (l0 :: lt), sv ([]), .bool m2, .bool false], .bool false]) (by simp [results, Tryd.results75, go_sem, s0, s1, s2, s3]) rfl ?_
                exact ⟨by rw [HF.out, HG.out]; rfl, by go_grown⟩
            · have hgood : Cr.good (l0 :: lt) ([]) true = false := by simp [Cr.good]
              simp only [List.length_cons] at g1
              have HG := Lib.hid hgood
              clear hgood
              cases r with
              | nil =>
                go_wp2_with (first | (go_at_call 27; refine (HQ.out _).mono ?_; rintro e w1 ⟨rfl, hw⟩; obtain rfl := hw.symm; clear hw))
                refine bodyPost_ret (v := .tuple #[.agg #[sv (l0 :: lt), sv ([]), .bool m2, .bool true], .bool false]) (by simp [results, Tryd.results75, go_sem, s0, s1, s2, s3]) rfl ?_
                exact ⟨by rw [HF.out, HG.out]; rfl, by go_grown⟩
              | cons r0 rt =>
                go_wp2_with (first | (go_at_call 27; refine (HQ.out _).mono ?_; rintro e w1 ⟨rfl, hw⟩; obtain rfl := hw.symm; clear hw))
                refine bodyPost_ret (v := .tuple #[.agg #[sv (l0 :: lt), sv ([]), .bool m2, .bool true], .bool false]) (by simp [results, Tryd.results75, go_sem, s0, s1, s2, s3]) rfl ?_
                exact ⟨by rw [HF.out, HG.out]; rfl, by go_grown⟩
end Go.Proofs.YtjgojbkmeggmhaaDoor
