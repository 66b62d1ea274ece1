/- slices.Grow of nil, slices.Concat of two slices of numbers. -/
import Derived.Test.YtmapagbmihpbmaaGreatDoorGal
import Derived.Lib.AppendZerosOnto
import Derived.Lib.SliceRun
import Derived.Outline
import Derived.Lib.Hide
import Derived.StillTailTactics
import Derived.Deep.QuietTactic
import Derived.IntWalk
import Derived.Deep.RegionHeld3
set_option linter.unusedSimpArgs false
set_option linter.unusedVariables false
namespace Go.Proofs.YtmapagbmihpbmaaGreatDoor
open Go.RowKit

set_option maxRecDepth 100000 in
set_option maxHeartbeats 2000000 in
theorem grow_any (n : Nat) (w : World) (h0 : 0 < n) (hn : n ≤ 1000000) :
    Calls Tryz.prog 64 #[.slice none 0 0, .int .i64 n] w fun e w' => ∃ c, e = .returned (.slice (some ⟨w.heap.size, 0, none⟩) 0 c) ∧ R1 3 .i64 w' w.heap.size (.slice (some ⟨w.heap.size, 0, none⟩) 0 c) [] ∧ Below w.heap.size w w' := by
  obtain ⟨i0, hi, hz0, hz1, hz2⟩ := info_parts int_info
  have h1 : ¬ ((n : Int) < 0) := by omega
  have h4 : (n : Int) > 0 := by omega
  have hold : (Builtin.firstCells i0.size 0 (.slice none 0 0)).run Tryz.prog w.drew = .ok #[] w.drew := run_firstCells_none w.drew i0.size 0 0 0
  have hrz : ∀ ty, (Builtin.append_ #[22, 3] ty #[.slice none 0 0, .int .i64 (n : Int)]).run Tryz.prog w = .ok (.slice (some ⟨w.heap.size, 0, none⟩) n (grownCap w n 0 3)) (w.drew.alloc (.cells (#[] ++ Builtin.zeroCells (Value.int .i64 0).cells n ++ Builtin.zeroCells (Value.int .i64 0).cells (grownCap w n 0 3 - n)) 3)) := fun ty => by
    have h := Lib.run_append_grow_zeros w 22 3 ty 3 i0 (.int .i64 0) .i64 .i64 Tryz.underlying22 Tryz.underlying3 hi hz0 none 0 0 [] hold n h0 (by omega) (by omega) (by omega) (by rw [hz2]; omega)
      (by rw [Nat.zero_add]; exact growslice_fits h0 (by rw [hz2]; omega))
    rw [Nat.zero_add] at h
    exact h
  have hGn : n ≤ grownCap w n 0 3 := grownCap_ge w _ _ _
  obtain ⟨G, hG⟩ : ∃ G, G = grownCap w n 0 3 := ⟨_, rfl⟩
  rw [← hG] at hrz hGn
  have hGm : G ≤ maxLen := by rw [hG]; exact grownCap_le_maxLen w n 0 3 (by unfold maxLen; omega)
  have hG63 : G ≤ 9223372036854775807 := by unfold maxLen at hGm; omega
  have HG := Lib.hid hGm
  clear hG hold hi hz0 hz1 hz2 hGm
  go_enter Tryz.func64, Tryz.ntmps64
  go_wp2_with (at_builtin; refine Lib.wpList_append_run _ rfl _ _ _ _ rfl _ _ rfl rfl _ _ (hrz _) ?_)
  go_ret
  refine ⟨G, rfl, ⟨rfl, .inr ⟨w.heap.size, G, _, rfl, Nat.le_refl _, heap_alloc_new _ _, Nat.zero_le _, HG.out, ?_, rfl⟩⟩, (Below.refl _ _).drew.alloc (Nat.le_refl _) _⟩
  simp only [Array.size_append, size_zeroCells]
  simp
  omega
theorem R1.shp {E : TypeId} {K : IntKind} {w : World} {base : Nat} {v : Value} {l : List Nat} (h : R1 E K w base v l) : ∃ A n c, v = .slice A n c := by
  obtain ⟨A, c, e⟩ := h.shape
  exact ⟨A, _, c, e⟩
theorem R1.nums {E : TypeId} {K : IntKind} {w : World} {base g c n : Nat} {l : List Nat} (h : R1 E K w base (.slice (some ⟨g, 0, none⟩) n c) l) (hn : l.length = n) : ∀ j u, (l.map fun (x : Nat) => Value.int K (x : Int))[j]? = some u → w.cell? ((⟨g, 0, none⟩ : Addr).add j) = some u := by
  intro j u hj
  have hlt : j < l.length := by
    have := (List.getElem?_eq_some_iff.1 hj).1
    simpa using this
  rw [Addr.add_lit, Nat.zero_add, h.cell hn hlt, ← hj]
  simp [hlt]
section
variable {ops : Array Oper} {rest : List Oper} {o : Oper} {a : Act} {Q : Exit → Act → World → Prop}
set_option maxRecDepth 100000 in
/-- append of a row of numbers. -/
theorem wp_appL {w : World} (hgd : o.guard = none) (s x : Operand) (ho : o.op = .call { callee := .builtin .append, args := #[s, x], argTypes := #[22, 22] })
    (base : Nat) (v : Value) (l : List Nat) (hs : a.eval s = v) (hown : R1 3 .i64 w base v l) (g n c base2 : Nat) (l2 : List Nat) (hx : a.eval x = .slice (some ⟨g, 0, none⟩) n c) (h2 : R1 3 .i64 w base2 (.slice (some ⟨g, 0, none⟩) n c) l2)
    (hlen : l.length + l2.length ≤ 1099511627776) (hbase : base ≤ w.heap.size)
    (h : ∀ v' w', R1 3 .i64 w' base v' (l ++ l2) → Below base w w' → w.grownBy w' v.ownBlock → wpList Tryz.prog ops Q rest (a.put o.dst v') w') :
    wpList Tryz.prog ops Q (o :: rest) a w := by
  obtain ⟨i0, hi, hz0, hz1, hz2⟩ := info_parts int_info
  have hn : l2.length = n := by
    obtain ⟨A, c', e⟩ := h2.shape
    injection e with _ e _
    exact e.symm
  refine wpList_append_own_at _ hgd s x 22 ho base 3 i0 (.int .i64 0) 1 8 Tryz.underlying22 hi hz0 hz1 hz2 rfl (by decide) v l.length _ hs hown ⟨g, 0, none⟩ n c (l2.map fun (x : Nat) => Value.int .i64 (x : Int)) hx (by simp [hn]) (h2.nums hn) (fun u hu => by obtain ⟨x, -, rfl⟩ := List.mem_map.1 hu; rfl) (by unfold maxLen; omega) (by omega) (by omega) ?_
  intro v' w' h1 h3 _ _
  refine h v' w' ?_ ((Below.refl _ _).grown h3 hbase (fun k hk => ((World.ownsRow.lt hown) k hk).1)) h3
  unfold R1
  rw [List.map_append, List.length_append, hn]
  exact h1
end
set_option maxRecDepth 100000 in
set_option maxHeartbeats 4000000 in
theorem concat_any (gp g1 c1 b1 n1 g2 c2 b2 n2 : Nat) (l1 l2 : List Nat) (w : World) (hp0 : w.cell? ⟨gp, 0, none⟩ = some (.slice (some ⟨g1, 0, none⟩) n1 c1)) (hp1 : w.cell? ⟨gp, 1, none⟩ = some (.slice (some ⟨g2, 0, none⟩) n2 c2))
    (h1 : R1 3 .i64 w b1 (.slice (some ⟨g1, 0, none⟩) n1 c1) l1) (h2 : R1 3 .i64 w b2 (.slice (some ⟨g2, 0, none⟩) n2 c2) l2) (e1 : l1.length = n1) (e2 : l2.length = n2) (hn : 0 < n1) (hb1 : n1 ≤ 100000) (hb2 : n2 ≤ 100000) :
    Calls Tryz.prog 35 #[.slice (some ⟨gp, 0, none⟩) 2 2] w fun e w' => ∃ g c, e = .returned (.slice (some ⟨g, 0, none⟩) (n1 + n2) c) ∧ R1 3 .i64 w' w.heap.size (.slice (some ⟨g, 0, none⟩) (n1 + n2) c) (l1 ++ l2) ∧ Below w.heap.size w w' := by
  have H1 := Lib.hid h1
  have H2 := Lib.hid h2
  have E1 := Lib.hid e1
  have E2 := Lib.hid e2
  have hgp : gp < w.heap.size := World.block_lt_of_cell? _ _ hp0
  obtain ⟨N, hN⟩ : ∃ N, N = n1 + n2 := ⟨_, rfl⟩
  have HN := Lib.hid hN
  have eN : (n1 : Int) + (n2 : Int) = (N : Int) := by omega
  have bN : N ≤ 200000 := by omega
  have bN0 : 0 < N := by omega
  have HG := Lib.hid (grow_any N w bN0 (by omega))
  clear h1 h2 e1 e2 hN
  go_enter Tryz.func35, Tryz.ntmps35
  go_wp2_with fail
  go_loopw [3, 11] (fun u3 u11 wr => ∃ j : Nat, u11 = .int .i64 j ∧ Hid (w = wr) ∧ (j = 0 ∧ u3 = .int .i64 0 ∨ j = 1 ∧ u3 = .int .i64 n1 ∨ j = 2 ∧ u3 = .int .i64 N)) (fun _ u _ => 2 - (intOf u).toNat)
  case atStart => exact ⟨0, rfl, Lib.hid rfl, .inl ⟨rfl, rfl⟩⟩
  case round =>
    obtain ⟨j, rfl, hw, hj⟩ := hrel
    obtain rfl := hw.out
    rcases hj with ⟨rfl, rfl⟩ | ⟨rfl, rfl⟩ | ⟨rfl, rfl⟩
    · go_wp2_with fail
      go_roundw
      case rel => exact ⟨1, rfl, Lib.hid trivial, by simp⟩
      case measure => simp [intOf]
    · go_wp2_with fail
      go_roundw
      case rel => exact ⟨2, rfl, Lib.hid trivial, by simp⟩
      case measure => simp [intOf]
    · go_wp2_with (go_at_call 64; (with_reducible refine HG.out.mono ?_); rintro e w1 ⟨c, rfl, hr, hb⟩; have HR1 := Lib.hid hr; have HB1 := Lib.hid hb; clear hr hb)
      go_loopw [6, 27] (fun u6 u27 wr => ∃ (j : Nat) (l : List Nat), u27 = .int .i64 j ∧ Hid (j = 0 ∧ l = [] ∨ j = 1 ∧ l = l1 ∨ j = 2 ∧ l = l1 ++ l2) ∧ Hid (R1 3 .i64 wr w.heap.size u6 l) ∧ Hid (Below w.heap.size w wr)) (fun _ u _ => 2 - (intOf u).toNat)
      case atStart => exact ⟨0, [], rfl, Lib.hid (.inl ⟨rfl, rfl⟩), HR1, HB1⟩
      case round =>
        clear HR1 HB1
        obtain ⟨j, l, rfl, HJ, HR, HB⟩ := hrel
        have q0 := (HB.out.cell (by exact hgp)).trans hp0
        have q1 := (HB.out.cell (by exact hgp)).trans hp1
        have K1 := Lib.hid (H1.out.later HB.out)
        have K2 := Lib.hid (H2.out.later HB.out)
        obtain ⟨A, m, cc, rfl⟩ := HR.out.shp
        rcases HJ.out with ⟨rfl, e⟩ | ⟨rfl, e⟩ | ⟨rfl, e⟩
        · have HE := Lib.hid e
          clear e
          go_wp2_with (at_builtin; refine wp_appL rfl _ _ rfl w.heap.size _ l rfl HR.out g1 n1 c1 b1 l1 rfl K1.out ?_ HB.out.size ?_; (rw [HE.out, E1.out]; simp; omega); intro v2 w2 hr2 hb2 _; have HR2 := Lib.hid hr2; have HB2 := Lib.hid (HB.out.trans hb2); obtain ⟨A2, m2, c2', rfl⟩ := hr2.shp; clear hr2 hb2)
          go_roundw
          case rel => exact ⟨1, l1, rfl, Lib.hid (.inr (.inl ⟨rfl, rfl⟩)), Lib.hid (by have := HR2.out; rw [HE.out] at this; exact this), HB2⟩
          case measure => simp [intOf]
        · have HE := Lib.hid e
          clear e
          go_wp2_with (at_builtin; refine wp_appL rfl _ _ rfl w.heap.size _ l rfl HR.out g2 n2 c2 b2 l2 rfl K2.out ?_ HB.out.size ?_; (rw [HE.out, E1.out, E2.out]; omega); intro v2 w2 hr2 hb2 _; have HR2 := Lib.hid hr2; have HB2 := Lib.hid (HB.out.trans hb2); obtain ⟨A2, m2, c2', rfl⟩ := hr2.shp; clear hr2 hb2)
          go_roundw
          case rel => exact ⟨2, l1 ++ l2, rfl, Lib.hid (.inr (.inr ⟨rfl, rfl⟩)), Lib.hid (by have := HR2.out; rw [HE.out] at this; exact this), HB2⟩
          case measure => simp [intOf]
        · have HE := Lib.hid e
          clear e
          go_wp2_with fail
          go_ret
          have hr := HR.out
          have hl : l.length = n1 + n2 := by rw [HE.out, List.length_append, E1.out, E2.out]
          have hm : m = n1 + n2 := by
            obtain ⟨A', c', e⟩ := hr.shape
            injection e with _ e _
            rw [e, hl]
          obtain ⟨g, c', e, -, -⟩ := hr.form (by omega)
          injection e with e3 e4 e5
          rw [hm, e3] at hr ⊢
          rw [HE.out] at hr
          exact ⟨g, cc, rfl, hr, HB.out⟩
end Go.Proofs.YtmapagbmihpbmaaGreatDoor
