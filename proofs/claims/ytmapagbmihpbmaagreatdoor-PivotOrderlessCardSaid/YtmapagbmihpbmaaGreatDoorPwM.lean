/- The mixed array of a law, three columns, its items in a row of their own. -/
import Derived.Test.YtmapagbmihpbmaaGreatDoorGan
import Derived.Test.YtmapagbmihpbmaaGreatDoorGaj
import Derived.Test.YtmapagbmihpbmaaGreatDoorPvW
import Derived.Test.YtmapagbmihpbmaaGreatDoorMod
import Derived.Test.YtmapagbmihpbmaaGreatDoorGam
import Derived.Deep.DeepCutAuto
import Derived.Deep.RegionLaw
set_option linter.unusedSimpArgs false
set_option linter.unusedVariables false
namespace Go.Proofs.YtmapagbmihpbmaaGreatDoor
open Go.RowKit

/-- An item is put: what stays. -/
theorem itm_put {w W w5 : World} {L : List (Nat × TypeId × Array Value)} {z : Nat} {x0 x1 x2 x3 x4 x5 x6 x7 rv nv : Value} {l' : List Vl} {B : Nat} (hL : Loc w ((z, 27, #[x0, x1, x2, x3, x4, x5, x6, x7, rv]) :: L) W) (hne : ∀ x ∈ L, x.1 ≠ z) (hlt : ∀ x ∈ L, x.1 < B) (hzB : z < B) (hB : B ≤ W.heap.size) (hb : Below B W w5) (ho : RowOf 27 9 csV w5 B nv l') :
    (w5.cell? ⟨z, 8, none⟩ = some rv ∧ w5.frozen? ⟨z, 8, none⟩ = false) ∧ Loc w ((z, 27, #[x0, x1, x2, x3, x4, x5, x6, x7, nv]) :: L) (w5.setCell ⟨z, 8, none⟩ nv) ∧ RowOf 27 9 csV (w5.setCell ⟨z, 8, none⟩ nv) B nv l' ∧ B ≤ (w5.setCell ⟨z, 8, none⟩ nv).heap.size := by
  have hw : w.heap.size ≤ B := by
    have := (hL.2 _ (List.mem_cons_self ..)).1
    exact Nat.le_of_lt (Nat.lt_of_le_of_lt this hzB)
  have hL5 := hL.stepB' hb hw (fun x hx => by
    rcases List.mem_cons.1 hx with rfl | hx
    · exact hzB
    · exact hlt x hx)
  have hz := hL5.blk (g := z) (t := 27) (List.mem_cons_self ..)
  refine ⟨⟨hz.cell 8, hz.frozen 8⟩, ?_, RowOf.far ho (fun k hk e => by
    have h1 := (RowOf.lt ho k hk).1
    have e : k = z := e
    omega) nv, ?_⟩
  · have := hL5.set1 (i := 8) hne nv
    exact this
  · have := hb.size
    simp only [World.setCell, Array.size_modify]
    omega
structure MX (w W : World) (L : List (Nat × TypeId × Array Value)) (B : Nat) (rv : Value) (l : List Vl) : Prop where
  loc : Loc w L W
  row : RowOf 27 9 csV W B rv l
  base : B ≤ W.heap.size
section
variable {w W W' : World} {L : List (Nat × TypeId × Array Value)} {B : Nat} {rv : Value} {l : List Vl}
theorem MX.step (h : MX w W L B rv l) (hb : Below W.heap.size W W') : MX w W' L B rv l := ⟨h.loc.step hb, RowOf.later h.row hb, Nat.le_trans h.base hb.size⟩
theorem MX.drew (h : MX w W L B rv l) : MX w W.drew L B rv l := ⟨h.loc.drew, RowOf.drew h.row, h.base⟩
theorem MX.alloc (h : MX w W L B rv l) (o : Obj) : MX w (W.alloc o) L B rv l := h.step ((Below.refl _ _).alloc (Nat.le_refl _) _)
end
theorem itms_snoc (cols : Nat) (Z : List Int) (T i : Nat) (h : i < T) : (itms cols Z T).take (i + 1) = (itms cols Z T).take i ++ [itm cols Z i] := by
  have h9 : i < (itms cols Z T).length := by rw [itms_len]; exact h
  rw [← List.take_append_getElem h9]
  congr 2
  simp [itms]
set_option maxRecDepth 100000 in
set_option maxHeartbeats 16000000 in
theorem mixed_own (A : Option Addr) (n c : Nat) (Z : List Int) (w : World) (he : VEnv w) (hZ : RdZ w (.slice A n c) Z) (hn : n ≤ 9223372036854775807) (hx : ∀ x ∈ Z, -9223372036854775808 ≤ x ∧ x ≤ 9223372036854775807) (m : Nat) (hm : m = min n 40 / 3) :
    Calls Tryz.prog 5 #[.slice A n c, .int .i64 3] w fun e w' => ∃ g cc, e = .returned (.agg #[.int .i64 5, .string ⟨#[]⟩, .string ⟨#[]⟩, .string ⟨#[]⟩, .bool false, .int .i64 0, .int .i64 ((m : Int) + 2), .int .i64 3, .slice (some ⟨g, 0, none⟩) ((m + 2) * 3) cc]) ∧ RowOf 27 9 csV w' (w.heap.size + 2) (.slice (some ⟨g, 0, none⟩) ((m + 2) * 3) cc) (itms 3 Z ((m + 2) * 3)) ∧ Below w.heap.size w w' := by
  have hl : Z.length = n := by
    obtain ⟨A', c', e, -⟩ := hZ
    injection e with e1 e2 e3
    exact e2.symm
  have HZC := Lib.hid (show ∀ i, i < n → ∃ b o, A = some ⟨b, o, none⟩ ∧ ∀ W, Below w.heap.size w W → W.cell? ⟨b, o + i, none⟩ = some (.int .i64 (xAt Z i)) from fun i hi => by
    obtain ⟨A', c', e, -, -, h3⟩ := hZ
    injection e with e1 e2 e3
    obtain ⟨b, o, e4, hb, hc⟩ := h3 (by omega)
    refine ⟨b, o, e1.trans e4, fun W hW => (hW.cell (by exact hb)).trans ?_⟩
    have := hc i (by omega) 0 (by decide)
    rw [show o + (i * 1 + 0) = o + i by omega] at this
    rw [this]
    unfold xAt
    rw [dif_pos (by omega)]
    rfl)
  have HXO := Lib.hid (show ∀ i, ¬ i < n → xAt Z i = (i : Int) from fun i hi => by unfold xAt; rw [dif_neg (by omega)])
  have HXB := Lib.hid (show ∀ i, i < 1000 → -9223372036854775808 ≤ xAt Z i ∧ xAt Z i ≤ 9223372036854775807 from fun i hi => by
    unfold xAt
    split
    · exact hx _ (List.getElem_mem _)
    · omega)
  have hm13 : m ≤ 13 := by omega
  have HTX := Lib.hid (show ∀ t W, Below w.heap.size w W → txtE t = 0 → t.size ≤ 9223372036854775807 → Calls Tryz.prog 15 #[.string t] W fun e w' => e = .returned (.agg #[.int .i64 2, .string ⟨#[]⟩, .string ⟨#[]⟩, .string t, .bool false, .int .i64 0, .int .i64 0, .int .i64 0, .slice none 0 0]) ∧ Below W.heap.size W w' from fun t W hW h1 h2 => text_t t W (he.below hW) h1 h2)
  have HWH := Lib.hid (show ∀ (k : Nat) t W, Below w.heap.size w W → k ≤ 1000 → t = nt k → Calls Tryz.prog 16 #[.int .i64 (k : Int)] W fun e w' => e = .returned (.agg #[.int .i64 1, .string t, .string ⟨#[49]⟩, .string ⟨#[]⟩, .bool false, .int .i64 0, .int .i64 0, .int .i64 0, .slice none 0 0]) ∧ Below W.heap.size W w' from fun k t W hW h1 h2 => by
    rw [h2]
    exact whole_t k W h1 (Lib.tabBelow_of_tabIs he.pw W hW))
  have HNEX := Lib.hid (show ∀ x ∈ ([(w.heap.size, 27, #[.int .i64 0, .string ⟨#[]⟩, .string ⟨#[]⟩, .string ⟨#[]⟩, .bool false, .int .i64 0, .int .i64 0, .int .i64 0, .slice none 0 0])] : List (Nat × TypeId × Array Value)), x.1 ≠ w.heap.size + 1 from fun x hx => by rw [List.mem_singleton.1 hx]; dsimp only; omega)
  have HNLX := Lib.hid (show ∀ x ∈ ([(w.heap.size, 27, #[.int .i64 0, .string ⟨#[]⟩, .string ⟨#[]⟩, .string ⟨#[]⟩, .bool false, .int .i64 0, .int .i64 0, .int .i64 0, .slice none 0 0])] : List (Nat × TypeId × Array Value)), x.1 < w.heap.size + 2 from fun x hx => by rw [List.mem_singleton.1 hx]; dsimp only; omega)
  have HL0 := Lib.hid (((Loc.start w).alloc' rfl 27 #[.int .i64 0, .string ⟨#[]⟩, .string ⟨#[]⟩, .string ⟨#[]⟩, .bool false, .int .i64 0, .int .i64 0, .int .i64 0, .slice none 0 0]).alloc' (g := w.heap.size + 1) (by simp) 27 #[.int .i64 5, .string ⟨#[]⟩, .string ⟨#[]⟩, .string ⟨#[]⟩, .bool false, .int .i64 0, .int .i64 ((m : Int) + 2), .int .i64 3, .slice none 0 0])
  have HS0 := Lib.hid (show w.heap.size + 2 ≤ ((w.alloc (.cells #[.int .i64 0, .string ⟨#[]⟩, .string ⟨#[]⟩, .string ⟨#[]⟩, .bool false, .int .i64 0, .int .i64 0, .int .i64 0, .slice none 0 0] 27)).alloc (.cells #[.int .i64 5, .string ⟨#[]⟩, .string ⟨#[]⟩, .string ⟨#[]⟩, .bool false, .int .i64 0, .int .i64 ((m : Int) + 2), .int .i64 3, .slice none 0 0] 27)).heap.size from by simp)
  obtain ⟨mn, hmn⟩ : ∃ mn, mn = min n 40 := ⟨_, rfl⟩
  rw [← hmn] at hm
  have HM2 := Lib.hid (show (m : Int) + 2 = 2 + min (n : Int) 40 / 3 from by omega)
  clear hZ hl hx he hm hmn
  go_enter Tryz.func5, Tryz.ntmps5
  go_upto_region 1 with fail
  go_cut [5] (fun u5 wx => u5 = .pointer (some ⟨w.heap.size + 1, 0, none⟩) ∧ Hid (Loc w [(w.heap.size + 1, 27, #[.int .i64 5, .string ⟨#[]⟩, .string ⟨#[]⟩, .string ⟨#[]⟩, .bool false, .int .i64 0, .int .i64 ((m : Int) + 2), .int .i64 3, .slice none 0 0]), (w.heap.size, 27, #[.int .i64 0, .string ⟨#[]⟩, .string ⟨#[]⟩, .string ⟨#[]⟩, .bool false, .int .i64 0, .int .i64 0, .int .i64 0, .slice none 0 0])] wx) ∧ Hid (w.heap.size + 2 ≤ wx.heap.size))
  case first =>
    clear HTX HWH HZC HXO HXB
    have h2 := HM2.out
    go_wp2_with fail
    go_meet
    rw [h2] at HL0 HS0 ⊢
    exact ⟨rfl, HL0, HS0⟩
  case rest =>
    clear HL0 HS0
    obtain ⟨rfl, HL0, HS0⟩ := hcut
    have zm1 : IntKind.i64.wrap (((m : Int) + 2) * 3) = ((m : Int) + 2) * 3 := IntWalk.i64_in _ (by omega)
    have t0 := (HL0.out.blk (g := w.heap.size + 1) (t := 27) (List.mem_cons_self ..)).cell 6
    simp only [List.getElem?_toArray, List.getElem?_cons_succ, List.getElem?_cons_zero] at t0
    go_wp2_with fail
    clear t0
    go_loopw [20] (fun u20 wr => ∃ (i : Nat) (v : Value), i ≤ (m + 2) * 3 ∧ u20 = .int .i64 i ∧ Hid (Loc w [(w.heap.size + 1, 27, #[.int .i64 5, .string ⟨#[]⟩, .string ⟨#[]⟩, .string ⟨#[]⟩, .bool false, .int .i64 0, .int .i64 ((m : Int) + 2), .int .i64 3, v]), (w.heap.size, 27, #[.int .i64 0, .string ⟨#[]⟩, .string ⟨#[]⟩, .string ⟨#[]⟩, .bool false, .int .i64 0, .int .i64 0, .int .i64 0, .slice none 0 0])] wr) ∧ Hid (RowOf 27 9 csV wr (w.heap.size + 2) v ((itms 3 Z ((m + 2) * 3)).take i)) ∧ Hid (w.heap.size + 2 ≤ wr.heap.size)) (fun u _ => (m + 2) * 3 - (intOf u).toNat)
    case atStart => exact ⟨0, .slice none 0 0, by omega, rfl, HL0, Lib.hid (RowOf.nil _ _), HS0⟩
    case round =>
      clear HL0 HS0
      obtain ⟨i, rv, hi, rfl, HL, HO, HS⟩ := hrel
      by_cases hlt : i < (m + 2) * 3
      · have hlz : (i : Int) < ((m : Int) + 2) * 3 := by omega
        go_upto_region 6 with fail
        obtain ⟨bb, hbb⟩ : ∃ bb : Bool, bb = true ↔ i < n := ⟨decide (i < n), by simp⟩
        have HBB := Lib.hid hbb
        clear hbb
        go_cut [27] (fun u27 wx => u27 = .bool bb ∧ wr = wx)
        case first =>
          by_cases hin : i < n
          · have hinz : (i : Int) < (n : Int) := by omega
            have e : bb = true := HBB.out.2 hin
            go_wp2_with fail
            go_meet
            exact ⟨by rw [e], rfl⟩
          · have hinz : ¬ (i : Int) < (n : Int) := by omega
            have e : bb = false := by rw [Bool.eq_false_iff]; exact fun h => hin (HBB.out.1 h)
            go_wp2_with fail
            go_meet
            exact ⟨by rw [e], rfl⟩
        case rest =>
        obtain ⟨rfl, rfl⟩ := hcut
        go_step
        go_cut [7] (fun u7 wx => u7 = .int .i64 (xAt Z i) ∧ wr = wx)
        case first =>
          cases bb
          · have hin : ¬ i < n := fun h => Bool.noConfusion (HBB.out.2 h)
            have hxx := HXO.out i hin
            go_wp2_with fail
            go_meet
            exact ⟨by rw [hxx], rfl⟩
          · have hin : i < n := HBB.out.1 rfl
            obtain ⟨b, o, rfl, hc⟩ := HZC.out i hin
            have c0 := hc wr HL.out.bel
            clear hc
            go_wp2_with fail
            go_meet
            exact ⟨rfl, rfl⟩
        case rest =>
          obtain ⟨rfl, rfl⟩ := hcut
          have hxb := HXB.out i (by omega)
          have hin1 : ¬ i < 3 → i % 3 = 2 → itm 3 Z i = nV (xAt Z i % 50).toNat := fun h1 h2 => by unfold itm; rw [if_neg h1, if_pos h2]
          have hin2 : ¬ i < 3 → ¬ i % 3 = 2 → itm 3 Z i = tV (wdL (xAt Z i % 4).toNat) := fun h1 h2 => by unfold itm; rw [if_neg h1, if_neg h2]
          generalize xAt Z i = x at hxb hin1 hin2 ⊢
          have HIN1 := Lib.hid hin1
          have HIN2 := Lib.hid hin2
          clear hin1 hin2
          have hcl := (HL.out.blk (g := w.heap.size + 1) (t := 27) (List.mem_cons_self ..)).cell 8
          have c8 : wr.cell? ⟨w.heap.size + 1, 8, none⟩ = some rv := hcl
          clear hcl
          have hsn := itms_snoc 3 Z ((m + 2) * 3) i hlt
          have hll : ((itms 3 Z ((m + 2) * 3)).take i).length = i := by rw [List.length_take, itms_len]; omega
          obtain ⟨LL, hLL⟩ : ∃ LL, LL = (itms 3 Z ((m + 2) * 3)).take i := ⟨_, rfl⟩
          rw [← hLL] at HO hsn hll
          have HSN := Lib.hid hsn
          clear hLL hsn
          have HX0 := Lib.hid (show MX w wr [(w.heap.size + 1, 27, #[.int .i64 5, .string ⟨#[]⟩, .string ⟨#[]⟩, .string ⟨#[]⟩, .bool false, .int .i64 0, .int .i64 ((m : Int) + 2), .int .i64 3, rv]), (w.heap.size, 27, #[.int .i64 0, .string ⟨#[]⟩, .string ⟨#[]⟩, .string ⟨#[]⟩, .bool false, .int .i64 0, .int .i64 0, .int .i64 0, .slice none 0 0])] (w.heap.size + 2) rv LL from ⟨HL.out, HO.out, HS.out⟩)
          have HS2 := Lib.hid (show ∀ W, MX w W [(w.heap.size + 1, 27, #[.int .i64 5, .string ⟨#[]⟩, .string ⟨#[]⟩, .string ⟨#[]⟩, .bool false, .int .i64 0, .int .i64 ((m : Int) + 2), .int .i64 3, rv]), (w.heap.size, 27, #[.int .i64 0, .string ⟨#[]⟩, .string ⟨#[]⟩, .string ⟨#[]⟩, .bool false, .int .i64 0, .int .i64 0, .int .i64 0, .slice none 0 0])] (w.heap.size + 2) rv LL → W.cell? ⟨w.heap.size + 1, 8, none⟩ = some rv from fun W h => (h.loc.blk (g := w.heap.size + 1) (t := 27) (List.mem_cons_self ..)).cell 8)
          have HPT := Lib.hid (show ∀ W W5 nv l', MX w W [(w.heap.size + 1, 27, #[.int .i64 5, .string ⟨#[]⟩, .string ⟨#[]⟩, .string ⟨#[]⟩, .bool false, .int .i64 0, .int .i64 ((m : Int) + 2), .int .i64 3, rv]), (w.heap.size, 27, #[.int .i64 0, .string ⟨#[]⟩, .string ⟨#[]⟩, .string ⟨#[]⟩, .bool false, .int .i64 0, .int .i64 0, .int .i64 0, .slice none 0 0])] (w.heap.size + 2) rv LL → Below (w.heap.size + 2) W W5 → RowOf 27 9 csV W5 (w.heap.size + 2) nv l' → (W5.cell? ⟨w.heap.size + 1, 8, none⟩ = some rv ∧ W5.frozen? ⟨w.heap.size + 1, 8, none⟩ = false) ∧ MX w (W5.setCell ⟨w.heap.size + 1, 8, none⟩ nv) [(w.heap.size + 1, 27, #[.int .i64 5, .string ⟨#[]⟩, .string ⟨#[]⟩, .string ⟨#[]⟩, .bool false, .int .i64 0, .int .i64 ((m : Int) + 2), .int .i64 3, nv]), (w.heap.size, 27, #[.int .i64 0, .string ⟨#[]⟩, .string ⟨#[]⟩, .string ⟨#[]⟩, .bool false, .int .i64 0, .int .i64 0, .int .i64 0, .slice none 0 0])] (w.heap.size + 2) nv l' from fun W W5 nv l' h hb ho => by
            have hpp := itm_put h.loc HNEX.out HNLX.out (Nat.lt_succ_self _) h.base hb ho
            exact ⟨hpp.1, hpp.2.1, hpp.2.2.1, hpp.2.2.2⟩)
          clear HL HO HS c8
          by_cases h3 : i < 3
          · have h3z : (i : Int) < 3 := by omega
            have hit : itm 3 Z i = tV ⟨#[104, 101, 97, 100]⟩ := by unfold itm; rw [if_pos h3]
            clear HWH
            have HCS := Lib.hid (show (#[.int .i64 2, .string ⟨#[]⟩, .string ⟨#[]⟩, .string ⟨#[104, 101, 97, 100]⟩, .bool false, .int .i64 0, .int .i64 0, .int .i64 0, .slice none 0 0] : Array Value).toList = csV (tV ⟨#[104, 101, 97, 100]⟩) from rfl)
            go_upto_region 10 with fail
            refine wp_region_G (S1 := fun _ => True) (S2 := fun W => W.cell? ⟨w.heap.size + 1, 8, none⟩ = some rv) (d := 6) (by kernel_rfl) trivial (HS2.out _ HX0.out.drew) (fun hT => ?_)
            refine wpAnyG_take1d (i := 0) (v := ?_) rfl rfl (by kernel_rfl) (by kernel_rfl) (by kernel_rfl) (by kernel_rfl) (fun _ _ _ h => h) (Or.inl ⟨by rfl, ?_⟩) (by assumption) (fun hT => ?_)
            rotate_left
            · intro w hSw
              (try dsimp only at hSw)
              go_simp
              (try with_reducible rfl)
            (try simp only [Act.put, List.setIfInBounds_toArray, List.set_cons_zero, List.set_cons_succ])
            refine wpAnyG_take2d (i := 1) (v := ?_) rfl rfl (by kernel_rfl) (by kernel_rfl) (by kernel_rfl) (by kernel_rfl) (by kernel_rfl) (by kernel_rfl) (fun _ _ _ h => h) (Or.inl ⟨by rfl, ?_⟩) (by assumption) (fun hT => ?_)
            rotate_left
            · intro w hSw
              (try dsimp only at hSw)
              go_simp
              (try with_reducible rfl)
            (try simp only [Act.put, List.setIfInBounds_toArray, List.set_cons_zero, List.set_cons_succ])
            refine wpAnyG_ready (rs := [2]) (by kernel_rfl) (by simp) ?_
            refine AllG.cons (i := 2) rfl (fun K hK => ?_) AllG.nil
            go_simp
            go_at_call 15
            with_reducible refine (HTX.out _ _ (HX0.out.drew).loc.bel head_txt (by decide)).mono ?_
            rintro e w1 ⟨rfl, hb⟩
            have HX1 := Lib.hid ((HX0.out.drew).step hb)
            clear hb
            refine hK.out _ _ ⟨trivial, .inr (HS2.out _ HX1.out)⟩ (fun hT => ?_)
            clear hK K
            (try simp only [Act.put, List.setIfInBounds_toArray, List.set_cons_zero, List.set_cons_succ])
            refine wpAnyG_ready (rs := [3]) (by kernel_rfl) (by simp) ?_
            refine AllG.cons (i := 3) rfl (fun K hK => ?_) AllG.nil
            go_simp
            refine hK.out _ _ ⟨trivial, .inr (HS2.out _ (HX1.out.alloc _))⟩ (fun hT => ?_)
            clear hK K
            (try simp only [Act.put, List.setIfInBounds_toArray, List.set_cons_zero, List.set_cons_succ])
            refine wpAnyG_ready (rs := [4]) (by kernel_rfl) (by simp) ?_
            refine AllG.cons (i := 4) rfl (fun K hK => ?_) AllG.nil
            refine step_row2 25 27 9 112 csV _ Tryz.underlying25 val_info rfl (by decide) csV_one rfl (.tmp 48) (.tmp 50) rfl (w.heap.size + 2) rv LL rfl (HX1.out.alloc _).row (tV ⟨#[104, 101, 97, 100]⟩) w1.heap.size _ HCS.out (Blk.new w1 _ _) rfl (by omega) (by unfold maxLen; omega) (HX1.out.alloc _).base ?_
            intro gx cx w5 ho hb hg hx
            rw [hll] at ho
            have hpp := HPT.out _ _ _ _ (HX1.out.alloc _) hb ho
            have r2c := hpp.1.1
            have r2f := hpp.1.2
            have HPP := Lib.hid hpp.2
            clear ho hb hg hx hpp
            refine hK.out _ _ ⟨trivial, .inr r2c⟩ (fun hT => ?_)
            clear hK K
            (try simp only [Act.put, List.setIfInBounds_toArray, List.set_cons_zero, List.set_cons_succ])
            refine wpAnyG_take1d (i := 5) (v := ?_) rfl rfl (by kernel_rfl) (by kernel_rfl) (by kernel_rfl) (by kernel_rfl) (fun _ _ _ h => h) (Or.inl ⟨by rfl, ?_⟩) (by assumption) (fun hT => ?_)
            rotate_left
            · intro w hSw
              (try dsimp only at hSw)
              go_simp
              (try with_reducible rfl)
            (try simp only [Act.put, List.setIfInBounds_toArray, List.set_cons_zero, List.set_cons_succ])
            refine wpAnyG_ready (rs := [6]) (by kernel_rfl) (by simp) ?_
            refine AllG.cons (i := 6) rfl (fun K hK => ?_) AllG.nil
            go_simp
            refine hK.out _ _ ⟨trivial, .inl rfl⟩ (fun hT => ?_)
            clear hK K
            (try simp only [Act.put, List.setIfInBounds_toArray, List.set_cons_zero, List.set_cons_succ])
            refine wpAnyG_done (by kernel_rfl) ?_ _
            go_wp2_with fail
            go_roundw
            case rel => exact ⟨i + 1, _, by omega, by go_num, Lib.hid HPP.out.loc, Lib.hid (by rw [HSN.out, hit]; exact HPP.out.row), Lib.hid HPP.out.base⟩
            case measure => simp [intOf]; omega
          · have h3z : ¬ (i : Int) < 3 := by omega
            by_cases h4 : i % 3 = 2
            · have h4z : (i : Int) % 3 = 2 := by omega
              obtain ⟨t, ht⟩ : ∃ t, t = nt (x % 50).toNat := ⟨_, rfl⟩
              have hit : itm 3 Z i = ⟨1, t, ⟨#[49]⟩, ⟨#[]⟩, false, 0, 0, 0, none, 0, 0⟩ := by rw [HIN1.out h3 h4, ht]; rfl
              clear HTX
              have h50 := n50 x
              have h5z : ((x % 50).toNat : Int) = x % 50 := by omega
              have HW := Lib.hid (show ∀ W, Below w.heap.size w W → Calls Tryz.prog 16 #[.int .i64 (x % 50)] W fun e w' => e = .returned (.agg #[.int .i64 1, .string t, .string ⟨#[49]⟩, .string ⟨#[]⟩, .bool false, .int .i64 0, .int .i64 0, .int .i64 0, .slice none 0 0]) ∧ Below W.heap.size W w' from fun W hW => by
                rw [← h5z]
                exact HWH.out (x % 50).toNat t W hW (by omega) ht)
              have HMO := Lib.hid fun W => mod_any x 50 W (by decide) (by decide) hxb
              have HCS := Lib.hid (show (#[.int .i64 1, .string t, .string ⟨#[49]⟩, .string ⟨#[]⟩, .bool false, .int .i64 0, .int .i64 0, .int .i64 0, .slice none 0 0] : Array Value).toList = csV ⟨1, t, ⟨#[49]⟩, ⟨#[]⟩, false, 0, 0, 0, none, 0, 0⟩ from rfl)
              clear HWH h5z ht
              go_upto_region 12 with fail
              refine wp_region_G (S1 := fun _ => True) (S2 := fun W => W.cell? ⟨w.heap.size + 1, 8, none⟩ = some rv) (d := 8) (by kernel_rfl) trivial (HS2.out _ HX0.out.drew) (fun hT => ?_)
              refine wpAnyG_take1d (i := 0) (v := ?_) rfl rfl (by kernel_rfl) (by kernel_rfl) (by kernel_rfl) (by kernel_rfl) (fun _ _ _ h => h) (Or.inl ⟨by rfl, ?_⟩) (by assumption) (fun hT => ?_)
              rotate_left
              · intro w hSw
                (try dsimp only at hSw)
                go_simp
                (try with_reducible rfl)
              (try simp only [Act.put, List.setIfInBounds_toArray, List.set_cons_zero, List.set_cons_succ])
              refine wpAnyG_take2d (i := 1) (v := ?_) rfl rfl (by kernel_rfl) (by kernel_rfl) (by kernel_rfl) (by kernel_rfl) (by kernel_rfl) (by kernel_rfl) (fun _ _ _ h => h) (Or.inl ⟨by rfl, ?_⟩) (by assumption) (fun hT => ?_)
              rotate_left
              · intro w hSw
                (try dsimp only at hSw)
                go_simp
                (try with_reducible rfl)
              (try simp only [Act.put, List.setIfInBounds_toArray, List.set_cons_zero, List.set_cons_succ])
              refine wpAnyG_take1d (i := 2) (v := ?_) rfl rfl (by kernel_rfl) (by kernel_rfl) (by kernel_rfl) (by kernel_rfl) (fun _ _ _ h => h) (Or.inl ⟨by rfl, ?_⟩) (by assumption) (fun hT => ?_)
              rotate_left
              · intro w hSw
                (try dsimp only at hSw)
                go_simp
                (try with_reducible rfl)
              (try simp only [Act.put, List.setIfInBounds_toArray, List.set_cons_zero, List.set_cons_succ])
              refine wpAnyG_ready (rs := [3]) (by kernel_rfl) (by simp) ?_
              refine AllG.cons (i := 3) rfl (fun K hK => ?_) AllG.nil
              go_simp
              go_at_call 12
              with_reducible refine (HMO.out _).mono ?_
              rintro e w9 ⟨rfl, rfl⟩
              refine hK.out _ _ ⟨trivial, .inr (HS2.out _ HX0.out.drew)⟩ (fun hT => ?_)
              clear hK K
              (try simp only [Act.put, List.setIfInBounds_toArray, List.set_cons_zero, List.set_cons_succ])
              refine wpAnyG_ready (rs := [4]) (by kernel_rfl) (by simp) ?_
              refine AllG.cons (i := 4) rfl (fun K hK => ?_) AllG.nil
              go_simp
              go_at_call 16
              with_reducible refine (HW.out _ (HX0.out.drew).loc.bel).mono ?_
              rintro e w1 ⟨rfl, hb⟩
              have HX1 := Lib.hid ((HX0.out.drew).step hb)
              clear hb
              refine hK.out _ _ ⟨trivial, .inr (HS2.out _ HX1.out)⟩ (fun hT => ?_)
              clear hK K
              (try simp only [Act.put, List.setIfInBounds_toArray, List.set_cons_zero, List.set_cons_succ])
              refine wpAnyG_ready (rs := [5]) (by kernel_rfl) (by simp) ?_
              refine AllG.cons (i := 5) rfl (fun K hK => ?_) AllG.nil
              go_simp
              refine hK.out _ _ ⟨trivial, .inr (HS2.out _ (HX1.out.alloc _))⟩ (fun hT => ?_)
              clear hK K
              (try simp only [Act.put, List.setIfInBounds_toArray, List.set_cons_zero, List.set_cons_succ])
              refine wpAnyG_ready (rs := [6]) (by kernel_rfl) (by simp) ?_
              refine AllG.cons (i := 6) rfl (fun K hK => ?_) AllG.nil
              refine step_row2 25 27 9 112 csV _ Tryz.underlying25 val_info rfl (by decide) csV_one rfl (.tmp 61) (.tmp 65) rfl (w.heap.size + 2) rv LL rfl (HX1.out.alloc _).row ⟨1, t, ⟨#[49]⟩, ⟨#[]⟩, false, 0, 0, 0, none, 0, 0⟩ w1.heap.size _ HCS.out (Blk.new w1 _ _) rfl (by omega) (by unfold maxLen; omega) (HX1.out.alloc _).base ?_
              intro gx cx w5 ho hb hg hx
              rw [hll] at ho
              have hpp := HPT.out _ _ _ _ (HX1.out.alloc _) hb ho
              have r2c := hpp.1.1
              have r2f := hpp.1.2
              have HPP := Lib.hid hpp.2
              clear ho hb hg hx hpp
              refine hK.out _ _ ⟨trivial, .inr r2c⟩ (fun hT => ?_)
              clear hK K
              (try simp only [Act.put, List.setIfInBounds_toArray, List.set_cons_zero, List.set_cons_succ])
              refine wpAnyG_take1d (i := 7) (v := ?_) rfl rfl (by kernel_rfl) (by kernel_rfl) (by kernel_rfl) (by kernel_rfl) (fun _ _ _ h => h) (Or.inl ⟨by rfl, ?_⟩) (by assumption) (fun hT => ?_)
              rotate_left
              · intro w hSw
                (try dsimp only at hSw)
                go_simp
                (try with_reducible rfl)
              (try simp only [Act.put, List.setIfInBounds_toArray, List.set_cons_zero, List.set_cons_succ])
              refine wpAnyG_ready (rs := [8]) (by kernel_rfl) (by simp) ?_
              refine AllG.cons (i := 8) rfl (fun K hK => ?_) AllG.nil
              go_simp
              refine hK.out _ _ ⟨trivial, .inl rfl⟩ (fun hT => ?_)
              clear hK K
              (try simp only [Act.put, List.setIfInBounds_toArray, List.set_cons_zero, List.set_cons_succ])
              refine wpAnyG_done (by kernel_rfl) ?_ _
              go_wp2_with fail
              go_roundw
              case rel => exact ⟨i + 1, _, by omega, by go_num, Lib.hid HPP.out.loc, Lib.hid (by rw [HSN.out, hit]; exact HPP.out.row), Lib.hid HPP.out.base⟩
              case measure => simp [intOf]; omega
            · have h4z : ¬ (i : Int) % 3 = 2 := by omega
              clear HWH
              have HMO0 := Lib.hid fun W => mod_any x 4 W (by decide) (by decide) hxb
              have hit0 := HIN2.out h3 h4
              obtain ⟨k, hk⟩ : ∃ k : Nat, x % 4 = (k : Int) := ⟨(x % 4).toNat, by omega⟩
              have hk4 : k < 4 := by omega
              rw [hk] at HMO0 hit0
              have HMO := Lib.hid (show ∀ W, Calls Tryz.prog 12 #[.int .i64 x, .int .i64 4] W fun e w' => e = .returned (.int .i64 (k : Int)) ∧ W = w' from HMO0.out)
              clear HMO0
              obtain ⟨t, ht⟩ : ∃ t, t = wdL k := ⟨_, rfl⟩
              have hit : itm 3 Z i = tV t := by rw [hit0, ht]; rfl
              have HTT := Lib.hid (show txtE t = 0 from by rw [ht]; exact wd_txt k)
              have HTZ := Lib.hid (show t.size ≤ 9223372036854775807 from by
                rw [ht]
                rcases (show k = 0 ∨ k = 1 ∨ k = 2 ∨ k = 3 by omega) with rfl | rfl | rfl | rfl <;> decide)
              have HWL := Lib.hid (show ∀ (h : k < ([Value.string ⟨#[97]⟩, Value.string ⟨#[98]⟩, Value.string ⟨#[65]⟩, Value.string ⟨#[99]⟩] : List Value).length), ([Value.string ⟨#[97]⟩, Value.string ⟨#[98]⟩, Value.string ⟨#[65]⟩, Value.string ⟨#[99]⟩] : List Value)[k]'h = .string t from fun h => by
                rw [ht]
                rcases (show k = 0 ∨ k = 1 ∨ k = 2 ∨ k = 3 by omega) with rfl | rfl | rfl | rfl <;> rfl)
              have HCS := Lib.hid (show (#[.int .i64 2, .string ⟨#[]⟩, .string ⟨#[]⟩, .string t, .bool false, .int .i64 0, .int .i64 0, .int .i64 0, .slice none 0 0] : Array Value).toList = csV (tV t) from rfl)
              clear hit0 ht hk
              have hkz : (k : Int) < 4 := by omega
              go_upto_region 8 with fail
              refine wp_region_G (S1 := fun _ => True) (S2 := fun W => W.cell? ⟨w.heap.size + 1, 8, none⟩ = some rv) (d := 11) (by kernel_rfl) trivial (HS2.out _ HX0.out.drew) (fun hT => ?_)
              refine wpAnyG_take1d (i := 0) (v := ?_) rfl rfl (by kernel_rfl) (by kernel_rfl) (by kernel_rfl) (by kernel_rfl) (fun _ _ _ h => h) (Or.inl ⟨by rfl, ?_⟩) (by assumption) (fun hT => ?_)
              rotate_left
              · intro w hSw
                (try dsimp only at hSw)
                go_simp
                (try with_reducible rfl)
              (try simp only [Act.put, List.setIfInBounds_toArray, List.set_cons_zero, List.set_cons_succ])
              refine wpAnyG_take2d (i := 1) (v := ?_) rfl rfl (by kernel_rfl) (by kernel_rfl) (by kernel_rfl) (by kernel_rfl) (by kernel_rfl) (by kernel_rfl) (fun _ _ _ h => h) (Or.inl ⟨by rfl, ?_⟩) (by assumption) (fun hT => ?_)
              rotate_left
              · intro w hSw
                (try dsimp only at hSw)
                go_simp
                (try with_reducible rfl)
              (try simp only [Act.put, List.setIfInBounds_toArray, List.set_cons_zero, List.set_cons_succ])
              refine wpAnyG_take1d (i := 3) (v := ?_) rfl rfl (by kernel_rfl) (by kernel_rfl) (by kernel_rfl) (by kernel_rfl) (fun _ _ _ h => h) (Or.inl ⟨by rfl, ?_⟩) (by assumption) (fun hT => ?_)
              rotate_left
              · intro w hSw
                (try dsimp only at hSw)
                go_simp
                (try with_reducible rfl)
              (try simp only [Act.put, List.setIfInBounds_toArray, List.set_cons_zero, List.set_cons_succ])
              refine wpAnyG_ready (rs := [2, 4]) (by kernel_rfl) (by simp) ?_
              refine AllG.cons (i := 2) rfl (fun K hK => ?_) (AllG.cons (i := 4) rfl (fun K hK => ?_) AllG.nil)
              · go_simp
                have HX9 := Lib.hid ((HX0.out.alloc (.cells #[.string ⟨#[97]⟩, .string ⟨#[98]⟩, .string ⟨#[65]⟩, .string ⟨#[99]⟩] 9)).drew)
                refine hK.out _ _ ⟨trivial, .inr (HS2.out _ HX9.out)⟩ (fun hT => ?_)
                clear hK K
                (try simp only [Act.put, List.setIfInBounds_toArray, List.set_cons_zero, List.set_cons_succ])
                refine wpAnyG_ready (rs := [4]) (by kernel_rfl) (by simp) ?_
                refine AllG.cons (i := 4) rfl (fun K hK => ?_) AllG.nil
                go_simp
                go_at_call 12
                with_reducible refine (HMO.out _).mono ?_
                rintro e w9 ⟨rfl, rfl⟩
                refine hK.out _ _ ⟨trivial, .inr (HS2.out _ HX9.out)⟩ (fun hT => ?_)
                clear hK K
                (try simp only [Act.put, List.setIfInBounds_toArray, List.set_cons_zero, List.set_cons_succ])
                refine wpAnyG_ready (rs := [5]) (by kernel_rfl) (by simp) ?_
                refine AllG.cons (i := 5) rfl (fun K hK => ?_) AllG.nil
                go_simp
                refine hK.out _ _ ⟨trivial, .inr (HS2.out _ HX9.out)⟩ (fun hT => ?_)
                clear hK K
                (try simp only [Act.put, List.setIfInBounds_toArray, List.set_cons_zero, List.set_cons_succ])
                refine wpAnyG_ready (rs := [6]) (by kernel_rfl) (by simp) ?_
                refine AllG.cons (i := 6) rfl (fun K hK => ?_) AllG.nil
                go_simp
                simp only [HWL.out]
                refine hK.out _ _ ⟨trivial, .inr (HS2.out _ HX9.out)⟩ (fun hT => ?_)
                clear hK K
                (try simp only [Act.put, List.setIfInBounds_toArray, List.set_cons_zero, List.set_cons_succ])
                refine wpAnyG_ready (rs := [7]) (by kernel_rfl) (by simp) ?_
                refine AllG.cons (i := 7) rfl (fun K hK => ?_) AllG.nil
                go_simp
                go_at_call 15
                with_reducible refine (HTX.out _ _ (HX9.out).loc.bel HTT.out HTZ.out).mono ?_
                rintro e w1 ⟨rfl, hb⟩
                have HX1 := Lib.hid ((HX9.out).step hb)
                clear hb
                refine hK.out _ _ ⟨trivial, .inr (HS2.out _ HX1.out)⟩ (fun hT => ?_)
                clear hK K
                (try simp only [Act.put, List.setIfInBounds_toArray, List.set_cons_zero, List.set_cons_succ])
                refine wpAnyG_ready (rs := [8]) (by kernel_rfl) (by simp) ?_
                refine AllG.cons (i := 8) rfl (fun K hK => ?_) AllG.nil
                go_simp
                refine hK.out _ _ ⟨trivial, .inr (HS2.out _ (HX1.out.alloc _))⟩ (fun hT => ?_)
                clear hK K
                (try simp only [Act.put, List.setIfInBounds_toArray, List.set_cons_zero, List.set_cons_succ])
                refine wpAnyG_ready (rs := [9]) (by kernel_rfl) (by simp) ?_
                refine AllG.cons (i := 9) rfl (fun K hK => ?_) AllG.nil
                refine step_row2 25 27 9 112 csV _ Tryz.underlying25 val_info rfl (by decide) csV_one rfl (.tmp 33) (.tmp 40) rfl (w.heap.size + 2) rv LL rfl (HX1.out.alloc _).row (tV t) w1.heap.size _ HCS.out (Blk.new w1 _ _) rfl (by omega) (by unfold maxLen; omega) (HX1.out.alloc _).base ?_
                intro gx cx w5 ho hb hg hx
                rw [hll] at ho
                have hpp := HPT.out _ _ _ _ (HX1.out.alloc _) hb ho
                have r2c := hpp.1.1
                have r2f := hpp.1.2
                have HPP := Lib.hid hpp.2
                clear ho hb hg hx hpp
                refine hK.out _ _ ⟨trivial, .inr r2c⟩ (fun hT => ?_)
                clear hK K
                (try simp only [Act.put, List.setIfInBounds_toArray, List.set_cons_zero, List.set_cons_succ])
                refine wpAnyG_take1d (i := 10) (v := ?_) rfl rfl (by kernel_rfl) (by kernel_rfl) (by kernel_rfl) (by kernel_rfl) (fun _ _ _ h => h) (Or.inl ⟨by rfl, ?_⟩) (by assumption) (fun hT => ?_)
                rotate_left
                · intro w hSw
                  (try dsimp only at hSw)
                  go_simp
                  (try with_reducible rfl)
                (try simp only [Act.put, List.setIfInBounds_toArray, List.set_cons_zero, List.set_cons_succ])
                refine wpAnyG_ready (rs := [11]) (by kernel_rfl) (by simp) ?_
                refine AllG.cons (i := 11) rfl (fun K hK => ?_) AllG.nil
                go_simp
                refine hK.out _ _ ⟨trivial, .inl rfl⟩ (fun hT => ?_)
                clear hK K
                (try simp only [Act.put, List.setIfInBounds_toArray, List.set_cons_zero, List.set_cons_succ])
                refine wpAnyG_done (by kernel_rfl) ?_ _
                go_wp2_with fail
                go_roundw
                case rel => exact ⟨i + 1, _, by omega, by go_num, Lib.hid HPP.out.loc, Lib.hid (by rw [HSN.out, hit]; exact HPP.out.row), Lib.hid HPP.out.base⟩
                case measure => simp [intOf]; omega
              · go_simp
                go_at_call 12
                with_reducible refine (HMO.out _).mono ?_
                rintro e w9 ⟨rfl, rfl⟩
                refine hK.out _ _ ⟨trivial, .inr (HS2.out _ HX0.out.drew)⟩ (fun hT => ?_)
                clear hK K
                (try simp only [Act.put, List.setIfInBounds_toArray, List.set_cons_zero, List.set_cons_succ])
                refine wpAnyG_ready (rs := [2]) (by kernel_rfl) (by simp) ?_
                refine AllG.cons (i := 2) rfl (fun K hK => ?_) AllG.nil
                go_simp
                have HX9 := Lib.hid ((HX0.out.alloc (.cells #[.string ⟨#[97]⟩, .string ⟨#[98]⟩, .string ⟨#[65]⟩, .string ⟨#[99]⟩] 9)).drew)
                refine hK.out _ _ ⟨trivial, .inr (HS2.out _ HX9.out)⟩ (fun hT => ?_)
                clear hK K
                (try simp only [Act.put, List.setIfInBounds_toArray, List.set_cons_zero, List.set_cons_succ])
                refine wpAnyG_ready (rs := [5]) (by kernel_rfl) (by simp) ?_
                refine AllG.cons (i := 5) rfl (fun K hK => ?_) AllG.nil
                go_simp
                refine hK.out _ _ ⟨trivial, .inr (HS2.out _ HX9.out)⟩ (fun hT => ?_)
                clear hK K
                (try simp only [Act.put, List.setIfInBounds_toArray, List.set_cons_zero, List.set_cons_succ])
                refine wpAnyG_ready (rs := [6]) (by kernel_rfl) (by simp) ?_
                refine AllG.cons (i := 6) rfl (fun K hK => ?_) AllG.nil
                go_simp
                simp only [HWL.out]
                refine hK.out _ _ ⟨trivial, .inr (HS2.out _ HX9.out)⟩ (fun hT => ?_)
                clear hK K
                (try simp only [Act.put, List.setIfInBounds_toArray, List.set_cons_zero, List.set_cons_succ])
                refine wpAnyG_ready (rs := [7]) (by kernel_rfl) (by simp) ?_
                refine AllG.cons (i := 7) rfl (fun K hK => ?_) AllG.nil
                go_simp
                go_at_call 15
                with_reducible refine (HTX.out _ _ (HX9.out).loc.bel HTT.out HTZ.out).mono ?_
                rintro e w1 ⟨rfl, hb⟩
                have HX1 := Lib.hid ((HX9.out).step hb)
                clear hb
                refine hK.out _ _ ⟨trivial, .inr (HS2.out _ HX1.out)⟩ (fun hT => ?_)
                clear hK K
                (try simp only [Act.put, List.setIfInBounds_toArray, List.set_cons_zero, List.set_cons_succ])
                refine wpAnyG_ready (rs := [8]) (by kernel_rfl) (by simp) ?_
                refine AllG.cons (i := 8) rfl (fun K hK => ?_) AllG.nil
                go_simp
                refine hK.out _ _ ⟨trivial, .inr (HS2.out _ (HX1.out.alloc _))⟩ (fun hT => ?_)
                clear hK K
                (try simp only [Act.put, List.setIfInBounds_toArray, List.set_cons_zero, List.set_cons_succ])
                refine wpAnyG_ready (rs := [9]) (by kernel_rfl) (by simp) ?_
                refine AllG.cons (i := 9) rfl (fun K hK => ?_) AllG.nil
                refine step_row2 25 27 9 112 csV _ Tryz.underlying25 val_info rfl (by decide) csV_one rfl (.tmp 33) (.tmp 40) rfl (w.heap.size + 2) rv LL rfl (HX1.out.alloc _).row (tV t) w1.heap.size _ HCS.out (Blk.new w1 _ _) rfl (by omega) (by unfold maxLen; omega) (HX1.out.alloc _).base ?_
                intro gx cx w5 ho hb hg hx
                rw [hll] at ho
                have hpp := HPT.out _ _ _ _ (HX1.out.alloc _) hb ho
                have r2c := hpp.1.1
                have r2f := hpp.1.2
                have HPP := Lib.hid hpp.2
                clear ho hb hg hx hpp
                refine hK.out _ _ ⟨trivial, .inr r2c⟩ (fun hT => ?_)
                clear hK K
                (try simp only [Act.put, List.setIfInBounds_toArray, List.set_cons_zero, List.set_cons_succ])
                refine wpAnyG_take1d (i := 10) (v := ?_) rfl rfl (by kernel_rfl) (by kernel_rfl) (by kernel_rfl) (by kernel_rfl) (fun _ _ _ h => h) (Or.inl ⟨by rfl, ?_⟩) (by assumption) (fun hT => ?_)
                rotate_left
                · intro w hSw
                  (try dsimp only at hSw)
                  go_simp
                  (try with_reducible rfl)
                (try simp only [Act.put, List.setIfInBounds_toArray, List.set_cons_zero, List.set_cons_succ])
                refine wpAnyG_ready (rs := [11]) (by kernel_rfl) (by simp) ?_
                refine AllG.cons (i := 11) rfl (fun K hK => ?_) AllG.nil
                go_simp
                refine hK.out _ _ ⟨trivial, .inl rfl⟩ (fun hT => ?_)
                clear hK K
                (try simp only [Act.put, List.setIfInBounds_toArray, List.set_cons_zero, List.set_cons_succ])
                refine wpAnyG_done (by kernel_rfl) ?_ _
                go_wp2_with fail
                go_roundw
                case rel => exact ⟨i + 1, _, by omega, by go_num, Lib.hid HPP.out.loc, Lib.hid (by rw [HSN.out, hit]; exact HPP.out.row), Lib.hid HPP.out.base⟩
                case measure => simp [intOf]; omega
      · have hlz : ¬ (i : Int) < ((m : Int) + 2) * 3 := by omega
        obtain rfl : i = (m + 2) * 3 := by omega
        have hO := HO.out
        rw [List.take_of_length_le (Nat.le_of_eq (itms_len ..))] at hO
        obtain ⟨g, cc, hg, -, -⟩ := RowOf.form hO (by rw [itms_len]; omega)
        rw [itms_len] at hg
        subst hg
        have HOO := Lib.hid hO
        have hb1 := HL.out.blk (g := w.heap.size + 1) (t := 27) (List.mem_cons_self ..)
        have hb0 := HL.out.blk (g := w.heap.size) (t := 27) (List.mem_cons_of_mem _ (List.mem_cons_self ..))
        have HB0 := Lib.hid hb0
        obtain ⟨k0, k1, k2, k3, k4, k5, k6, k7, k8⟩ := hb1.nine
        obtain ⟨z0, z1, z2, z3, z4, z5, z6, z7, z8⟩ := hb0.nine
        obtain ⟨f0, f1, f2, f3, f4, f5, f6, f7, f8⟩ := hb0.ninef
        obtain ⟨bs, q0, q1, q2, q3, q4, q5, q6, q7, q8⟩ := hb0.nine_set (.int .i64 5) (.string ⟨#[]⟩) (.string ⟨#[]⟩) (.string ⟨#[]⟩) (.bool false) (.int .i64 0) (.int .i64 ((m : Int) + 2)) (.int .i64 3) (.slice (some ⟨g, 0, none⟩) ((m + 2) * 3) cc)
        have BS := Lib.hid bs
        clear bs hb0 hb1 hO
        go_wp2_with fail
        obtain ⟨q0, q1, q2, q3, q4, q5, q6, q7, q8⟩ := BS.out.nine
        refine bodyPost_ret (v := .agg #[.int .i64 5, .string ⟨#[]⟩, .string ⟨#[]⟩, .string ⟨#[]⟩, .bool false, .int .i64 0, .int .i64 ((m : Int) + 2), .int .i64 3, .slice (some ⟨g, 0, none⟩) ((m + 2) * 3) cc]) (by simp [results, Tryz.results5, go_sem, q0, q1, q2, q3, q4, q5, q6, q7, q8]) rfl ?_
        have hbel := fun y0 y1 y2 y3 y4 y5 y6 y7 y8 => below_nine HL.out.bel (Nat.le_refl w.heap.size) y0 y1 y2 y3 y4 y5 y6 y7 y8
        have hbe2 := fun y0 y1 y2 y3 y4 y5 y6 y7 y8 => below_nine (Below.refl w.heap.size wr) (Nat.le_refl w.heap.size) y0 y1 y2 y3 y4 y5 y6 y7 y8
        refine ⟨g, cc, rfl, (RowOf.chg HOO.out (B := wr.heap.size) (G := [w.heap.size]) ?_ fun k hk => ⟨(RowOf.lt HOO.out k hk).2, fun hm => by
          have h1 := (RowOf.lt HOO.out k hk).1
          have h2 := List.mem_singleton.1 hm
          omega⟩), hbel _ _ _ _ _ _ _ _ _⟩
        exact ((((((((((Chg.refl wr.heap.size [w.heap.size] wr).set (p := ⟨w.heap.size, 0, none⟩) (.inl (List.mem_singleton.2 rfl)) _).set (p := ⟨w.heap.size, 1, none⟩) (.inl (List.mem_singleton.2 rfl)) _).set (p := ⟨w.heap.size, 2, none⟩) (.inl (List.mem_singleton.2 rfl)) _).set (p := ⟨w.heap.size, 3, none⟩) (.inl (List.mem_singleton.2 rfl)) _).set (p := ⟨w.heap.size, 4, none⟩) (.inl (List.mem_singleton.2 rfl)) _).set (p := ⟨w.heap.size, 5, none⟩) (.inl (List.mem_singleton.2 rfl)) _).set (p := ⟨w.heap.size, 6, none⟩) (.inl (List.mem_singleton.2 rfl)) _).set (p := ⟨w.heap.size, 7, none⟩) (.inl (List.mem_singleton.2 rfl)) _).set (p := ⟨w.heap.size, 8, none⟩) (.inl (List.mem_singleton.2 rfl)) _)
end Go.Proofs.YtmapagbmihpbmaaGreatDoor
