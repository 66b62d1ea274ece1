/- squash.newDecoder. -/
import Derived.Test.YtcojoigbcfaajaaDoorSqD
import Derived.RegionTactic
import Derived.BigRegion
namespace Go.Proofs.YtcojoigbcfaajaaDoor
open Go.RowKit

/-- A decoder in memory: 32 numbers and a slice. -/
def DB (W : World) (g : Nat) (f : Nat → Nat) (v : Value) : Prop := Blk W g 81 (((List.range 32).map fun x => Value.int .i64 (f x : Int)) ++ [v]).toArray
section
variable {W W' : World} {g B : Nat} {f f' : Nat → Nat} {v : Value} {G : List Nat}
theorem DB.cell (h : DB W g f v) {i : Nat} (hi : i < 32) : W.cell? ⟨g, i, none⟩ = some (.int .i64 (f i : Int)) := by
  rw [Blk.cell h i, List.getElem?_toArray, List.getElem?_append_left (by simpa using hi), List.getElem?_map, List.getElem?_range hi]
  rfl
theorem DB.cellv (h : DB W g f v) : W.cell? ⟨g, 32, none⟩ = some v := by
  rw [Blk.cell h 32, List.getElem?_toArray, List.getElem?_append_right (by simp)]
  simp
theorem DB.frozen (h : DB W g f v) (i : Nat) : W.frozen? ⟨g, i, none⟩ = false := Blk.frozen h i
theorem DB.set (h : DB W g f v) {i : Nat} (hi : i < 32) (u : Nat) : DB (W.setCell ⟨g, i, none⟩ (.int .i64 (u : Int))) g (fun x => if x = i then u else f x) v := by
  have := Blk.set_ h i (.int .i64 (u : Int))
  unfold DB
  have e : (((List.range 32).map fun x => Value.int .i64 (f x : Int)) ++ [v]).toArray.setIfInBounds i (.int .i64 (u : Int)) = (((List.range 32).map fun x => Value.int .i64 ((if x = i then u else f x : Nat) : Int)) ++ [v]).toArray := by
    rw [List.setIfInBounds_toArray, List.set_append_left _ _ (by simpa using hi)]
    congr 2
    apply List.ext_getElem
    · simp
    · intro j h1 h2
      rw [List.getElem_set]
      simp only [List.getElem_map, List.getElem_range]
      by_cases hj : i = j
      · rw [if_pos hj, if_pos hj.symm]
      · rw [if_neg hj, if_neg (fun e => hj e.symm)]
  rw [← e]
  exact this
theorem DB.setv (h : DB W g f v) (u : Value) : DB (W.setCell ⟨g, 32, none⟩ u) g f u := by
  have := Blk.set_ h 32 u
  unfold DB
  have e : (((List.range 32).map fun x => Value.int .i64 (f x : Int)) ++ [v]).toArray.setIfInBounds 32 u = (((List.range 32).map fun x => Value.int .i64 (f x : Int)) ++ [u]).toArray := by
    rw [List.setIfInBounds_toArray, List.set_append_right _ _ (by simp)]
    simp
  rw [← e]
  exact this
theorem DB.congr (h : DB W g f v) (hf : ∀ x, x < 32 → f x = f' x) : DB W g f' v := by
  have e : ((List.range 32).map fun x => Value.int .i64 (f x : Int)) = (List.range 32).map fun x => Value.int .i64 (f' x : Int) := List.map_congr_left fun x hx => by rw [hf x (List.mem_range.1 hx)]
  unfold DB
  rw [← e]
  exact h
theorem DB.lt (h : DB W g f v) : g < W.heap.size := Blk.lt h
theorem DB.chg (h : DB W g f v) (hc : Chg B G W W') (hB : g < B) (hG : g ∉ G) : DB W' g f v := hc.blk h hB hG
theorem DB.below (h : DB W g f v) (hc : Below B W W') (hB : g < B) : DB W' g f v := Blk.below h hc hB
theorem DB.drewN (h : DB W g f v) (n : Nat) : DB (W.drewN n) g f v := h
theorem DB.drew (h : DB W g f v) : DB W.drew g f v := h
theorem DB.alloc (h : DB W g f v) (o : Obj) : DB (W.alloc o) g f v := Blk.alloc h o
end
theorem R1.shp {E : TypeId} {K : IntKind} {w : World} {base : Nat} {v : Value} {l : List Nat} (h : R1 E K w base v l) : ∃ A n c, v = .slice A n c := by
  obtain ⟨A, c, e⟩ := h.shape
  exact ⟨A, _, c, e⟩
namespace Sq
/-- The numbers of a decoder, when the lengths below n are done. -/
def dcf (L : Nat → Nat) (n x : Nat) : Nat := if x < 16 then (if 1 ≤ x ∧ x < n then fst L x else 0) else (if 17 ≤ x ∧ x < 16 + n then (lsU L (x - 16)).length else 0)
end Sq
set_option maxRecDepth 100000 in
set_option maxHeartbeats 4000000 in
theorem newDec_any (L : Nat → Nat) (b c B : Nat) (w : World) (hL : RF 272 w B b L) :
    Calls Tryd.prog 14 #[.slice (some ⟨b, 0, none⟩) 272 c] w fun e w' => ∃ v, e = .returned (.pointer (some ⟨w.heap.size, 0, none⟩)) ∧ DB w' w.heap.size (Sq.dcf L 16) v ∧ R1 3 .i64 w' (w.heap.size + 1) v (Sq.lsU L 16) ∧ Below w.heap.size w w' := by
  have HL := Lib.hid hL
  clear hL
  go_enter Tryd.func14, Tryd.ntmps14
  go_wp2_with fail
  go_loopw [4, 5] (fun u4 u5 wr => ∃ (n : Nat) (v : Value), 1 ≤ n ∧ n ≤ 16 ∧ u5 = .int .i64 n ∧ u4 = .int .i64 ((Sq.fst L (n - 1) + Sq.ct L (n - 1) : Nat) : Int) ∧ Hid (Below w.heap.size w wr) ∧ Hid (DB wr w.heap.size (Sq.dcf L n) v) ∧ Hid (R1 3 .i64 wr (w.heap.size + 1) v (Sq.lsU L n))) (fun _ u _ => 17 - (intOf u).toNat)
  case atStart => exact ⟨1, .slice none 0 0, by omega, by omega, rfl, rfl, Lib.hid ((Below.refl _ _).alloc (Nat.le_refl _) _), Lib.hid (DB.congr (f := fun _ => 0) (Blk.new _ _ _) (fun x _ => by unfold Sq.dcf; (repeat' split) <;> omega)), Lib.hid (R1.nil _ _)⟩
  case round =>
    obtain ⟨n, v0, hn1, hn2, rfl, rfl, HB, HD, HR⟩ := hrel
    by_cases hlt : n ≤ 15
    · have hlz : (n : Int) ≤ 15 := by omega
      obtain ⟨v, hv⟩ : ∃ v, v = Sq.fst L (n - 1) + Sq.ct L (n - 1) := ⟨_, rfl⟩
      obtain ⟨F, hF⟩ : ∃ F, F = Sq.fst L n := ⟨_, rfl⟩
      have hvF : v * 2 = F := by
        rw [hF, hv]
        obtain ⟨k, rfl⟩ : ∃ k, n = k + 1 := ⟨n - 1, by omega⟩
        rw [Sq.fst, Nat.add_sub_cancel, Nat.mul_comm]
      have bF : F ≤ 17825792 := hF ▸ Sq.fst_bd L (by omega)
      have ev : (v : Int) * 2 = (F : Int) := by omega
      rw [← hv]
      have HF := Lib.hid hF
      have bl := Sq.lsU_le L n
      obtain ⟨U, hU⟩ : ∃ U, U = Sq.lsU L n := ⟨_, rfl⟩
      rw [← hU] at bl HR
      obtain ⟨A, cc, rfl⟩ := HR.out.shape
      have HU := Lib.hid hU
      have g32 := HD.out.cellv
      have f32 := HD.out.frozen 32
      have gn := HD.out.cell (i := n) (by omega)
      have fn := HD.out.frozen n
      have gm := HD.out.cell (i := 16 + n) (by omega)
      have fm := HD.out.frozen (16 + n)
      have hz16 : (n : Int) < 16 := by omega
      have bl2 : U.length ≤ 5000 := by omega
      clear hv hF hU
      go_wp2_with fail
      go_region
      go_wp2_with fail
      have HD2 := Lib.hid (DB.congr (f' := Sq.dcf L (n + 1)) ((HD.out.set (i := n) (by omega) F).set (i := 16 + n) (by omega) U.length).drew (fun x hx => by
        unfold Sq.dcf
        by_cases h1 : x = 16 + n
        · rw [if_pos h1, if_neg (by omega), if_pos (by omega), HU.out, h1, Nat.add_sub_cancel_left]
        · rw [if_neg h1]
          by_cases h2 : x = n
          · rw [if_pos h2, if_pos (by omega), if_pos (by omega), HF.out, h2]
          · rw [if_neg h2]
            (repeat' split) <;> first | rfl | omega))
      have hfar : ∀ W : World, R1 3 .i64 W (w.heap.size + 1) (.slice A U.length cc) U → ∀ k, (Value.slice A U.length cc).ownBlock = some k → k ≠ w.heap.size := fun W hW k hk => by have := (hW.lt k hk).1; omega
      have HR1 := ((HR.out.far (p := ⟨w.heap.size, n, none⟩) (hfar _ HR.out) (.int .i64 (F : Int))))
      have HR2 := Lib.hid ((HR1.far (p := ⟨w.heap.size, 16 + n, none⟩) (hfar _ HR1) (.int .i64 (U.length : Int))).drew)
      have HB2 := Lib.hid (((HB.out.setCell (p := ⟨w.heap.size, n, none⟩) (Nat.le_refl _) (.int .i64 (F : Int))).setCell (p := ⟨w.heap.size, 16 + n, none⟩) (Nat.le_refl _) (.int .i64 (U.length : Int))).drew)
      clear HB HD HR HR1 hfar g32 f32 gn fn gm fm
      go_loopw [4, 34] (fun u4 u34 wr => ∃ (s k : Nat) (v' : Value), s ≤ 272 ∧ u34 = .int .i64 s ∧ u4 = .int .i64 ((F + k : Nat) : Int) ∧ k ≤ s ∧ Hid (k = (Sq.sy L n s).length) ∧ Hid (Below w.heap.size w wr) ∧ Hid (DB wr w.heap.size (Sq.dcf L (n + 1)) v') ∧ Hid (R1 3 .i64 wr (w.heap.size + 1) v' (U ++ Sq.sy L n s))) (fun _ u _ => 272 - (intOf u).toNat)
      case atStart => exact ⟨0, 0, _, by omega, rfl, rfl, by omega, Lib.hid rfl, HB2, HD2, Lib.hid (by rw [show Sq.sy L n 0 = [] from rfl, List.append_nil]; exact HR2.out)⟩
      case round =>
        clear HB2 HD2 HR2
        obtain ⟨s, k, v', hs, rfl, rfl, hk, HK, HB, HD, HR⟩ := hrel
        obtain ⟨x, hx⟩ : ∃ x, x = F + k := ⟨_, rfl⟩
        have bx : x ≤ 17826064 := by omega
        rw [← hx]
        by_cases hlt : s < 272
        · have hlz : (s : Int) < 272 := by omega
          have hcL := (HL.out.later HB.out).cell hlt
          by_cases he : L s = n
          · have hez : ((L s : Int) == (n : Int)) = true := by rw [beq_iff_eq]; omega
            have g32 := HD.out.cellv
            have f32 := HD.out.frozen 32
            have hlen : (U ++ Sq.sy L n s).length + 1 ≤ 1099511627776 := by rw [List.length_append, ← HK.out]; omega
            have hsz := HD.out.lt
            have HLen := Lib.hid hlen
            have HEq := Lib.hid he
            clear hlen he
            go_wp2_with (at_builtin; refine wp_appI rfl _ _ rfl (w.heap.size + 1) _ _ rfl HR.out _ s rfl rfl ?_ ?_ ?_; (exact HLen.out); (exact hsz); intro v1 w1 hr1 hb1 hg1; obtain ⟨A1, m1, c1, rfl⟩ := hr1.shp; have HR1 := Lib.hid hr1; have HD1 := Lib.hid (HD.out.below hb1 (by omega)); have HB1 := Lib.hid (HB.out.trans (hb1.mono (Nat.le_succ _))); have g33 := HD1.out.cellv; have f33 := HD1.out.frozen 32; clear hr1 hb1 hg1 g32 f32)
            go_roundw
            case rel =>
              refine ⟨s + 1, k + 1, _, by omega, by go_num, by first | rfl | (rw [← Nat.add_assoc, ← hx]; go_num), by omega, Lib.hid ?_, Lib.hid (HB1.out.setCell (p := ⟨w.heap.size, 32, none⟩) (Nat.le_refl _) _), Lib.hid (HD1.out.setv _), Lib.hid ?_⟩
              · rw [Sq.sy_step, if_pos HEq.out, List.length_append, ← HK.out]
                rfl
              · rw [Sq.sy_step, if_pos HEq.out, ← List.append_assoc]
                refine HR1.out.far (p := ⟨w.heap.size, 32, none⟩) (fun z hz => ?_) _
                have := (HR1.out.lt z hz).1
                show z ≠ w.heap.size
                omega
            case measure => simp [intOf]; omega
          · have hez : ((L s : Int) == (n : Int)) = false := by rw [beq_eq_false_iff_ne]; omega
            go_wp2_with fail
            go_roundw
            case rel =>
              refine ⟨s + 1, k, v', by omega, by go_num, by rw [← hx], by omega, Lib.hid ?_, HB, HD, Lib.hid ?_⟩
              · rw [Sq.sy_step, if_neg he]; exact HK.out
              · rw [Sq.sy_step, if_neg he]; exact HR.out
            case measure => simp [intOf]; omega
        · obtain rfl : s = 272 := by omega
          go_wp2_with fail
          go_roundw
          case rel =>
            have hct : Sq.ct L n = k := by unfold Sq.ct; rw [if_neg (by omega), HK.out]
            refine ⟨n + 1, v', by omega, by omega, by go_num, by rw [Nat.add_sub_cancel, hct, ← HF.out, ← hx], HB, HD, Lib.hid ?_⟩
            rw [Sq.lsU, if_neg (by omega), ← HU.out]
            exact HR.out
          case measure => simp [intOf]; omega
    · obtain rfl : n = 16 := by omega
      go_wp2_with fail
      go_ret
      exact ⟨v0, rfl, HD.out, HR.out, HB.out⟩
end Go.Proofs.YtcojoigbcfaajaaDoor
