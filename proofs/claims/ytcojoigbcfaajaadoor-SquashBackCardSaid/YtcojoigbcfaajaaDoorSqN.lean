/- squash: the writer of bits. -/
import Derived.Test.YtcojoigbcfaajaaDoorSqJ
namespace Go.Proofs.YtcojoigbcfaajaaDoor
open Go.RowKit

namespace Sq
/-- A bit is written: the bytes and the bits that are free in the last. -/
def pb (st : List Nat × Nat) (b : Nat) : List Nat × Nat :=
  if st.2 = 0 then (st.1 ++ [b * 128], 7)
  else (st.1.set (st.1.length - 1) (st.1.getD (st.1.length - 1) 0 + b * 2 ^ (st.2 - 1)), st.2 - 1)
/-- The low n bits of k. -/
def putF (k : Nat) : Nat → List Nat × Nat → List Nat × Nat
  | 0, st => st
  | n + 1, st => putF k n (pb st (k / 2 ^ n % 2))
/-- The last byte has so many free bits. -/
def WOk (st : List Nat × Nat) : Prop := st.2 ≤ 7 ∧ (st.1 = [] → st.2 = 0) ∧ st.1.getD (st.1.length - 1) 0 < 256 ∧ st.1.getD (st.1.length - 1) 0 % 2 ^ st.2 = 0
end Sq
theorem and1 (q : Nat) (h : q < 9223372036854775808) : bits .and .i64 (q : Int) 1 = ((q % 2 : Nat) : Int) := by
  show IntKind.i64.wrap ((BitVec.ofInt 64 (q : Int) &&& BitVec.ofInt 64 ((1 : Nat) : Int)).toNat : Int) = _
  rw [BitVec.toNat_and, ofInt64_nat _ (by omega), ofInt64_nat _ (by omega), Nat.and_one_is_mod]
  exact IntWalk.i64_in _ (by omega)
theorem and1k (k j : Nat) (h : k < 32768) : bits .and .i64 ((k : Int) / 2 ^ j) 1 = ((k / 2 ^ j % 2 : Nat) : Int) := by
  have h1 : k / 2 ^ j ≤ k := Nat.div_le_self _ _
  rw [← and1 (k / 2 ^ j) (by omega)]
  congr 1
  try simp
theorem or_bit_dec : ∀ f : Fin 8, ∀ b : Fin 2, ∀ x : Fin 256, x.val % 2 ^ (f.val + 1) = 0 → bits .or .u8 (x.val : Int) ((b.val : Int) % 256 * 2 ^ f.val % 256) = ((x.val + b.val * 2 ^ f.val : Nat) : Int) ∧ x.val + b.val * 2 ^ f.val < 256 ∧ (x.val + b.val * 2 ^ f.val) % 2 ^ f.val = 0 := by decide +kernel
theorem or_bit {f b x : Nat} (hf : f < 8) (hb : b < 2) (hx : x < 256) (h : x % 2 ^ (f + 1) = 0) : bits .or .u8 (x : Int) ((b : Int) % 256 * 2 ^ f % 256) = ((x + b * 2 ^ f : Nat) : Int) ∧ x + b * 2 ^ f < 256 ∧ (x + b * 2 ^ f) % 2 ^ f = 0 :=
  or_bit_dec ⟨f, hf⟩ ⟨b, hb⟩ ⟨x, hx⟩ h
/-- A writer in memory. -/
def Wr (W : World) (g base : Nat) (st : List Nat × Nat) : Prop := ∃ v, Blk W g 40 #[v, .int .i64 (st.2 : Int)] ∧ R1 5 .u8 W base v st.1
/-- Blocks that hold tokens are kept. -/
def KT (w W : World) : Prop := ∀ q cs, Blk w q 43 cs → Blk W q 43 cs
section
variable {w W W' : World} {g base n c : Nat} {v : Value} {l : List Nat} {ds : Array Value} {o : Obj}
theorem KT.refl (w : World) : KT w w := fun _ _ h => h
theorem KT.trans {w1 w2 w3 : World} (h : KT w1 w2) (k : KT w2 w3) : KT w1 w3 := fun q cs hq => k q cs (h q cs hq)
theorem KT.drew (h : KT w W) : KT w W.drew := h
theorem KT.setw (h : KT w W) (hb : Blk W g 40 ds) (k : Nat) (u : Value) : KT w (W.setCell ⟨g, k, none⟩ u) := fun q cs hq => by
  have h1 := h q cs hq
  refine h1.far (p := ⟨g, k, none⟩) (fun e => ?_) u
  have e : q = g := e
  subst e
  have h2 : (some (Obj.cells cs 43 (0, 0))) = some (Obj.cells ds 40 (0, 0)) := h1.symm.trans hb
  injection h2 with h2
  injection h2 with _ h2
  exact absurd h2 (by decide)
theorem KT.ne (hq : Blk W g 43 ds) (hr : R1 5 .u8 W base v l) : v.ownBlock ≠ some g := fun e => by
  rcases hr.2 with ⟨rfl, -⟩ | ⟨a, cap, cur, rfl, -, h2, -⟩
  · cases e
  · have e2 : some a = some g := e
    injection e2 with e2
    subst e2
    have h3 : (some (Obj.cells ds 43 (0, 0))) = some (Obj.cells cur 5 (0, 0)) := hq.symm.trans h2
    injection h3 with h3
    injection h3 with _ h3
    exact absurd h3 (by decide)
theorem KT.setr (h : KT w W) (hr : R1 5 .u8 W base (.slice (some ⟨g, 0, none⟩) n c) l) (k : Nat) (u : Value) : KT w (W.setCell ⟨g, k, none⟩ u) := fun q cs hq => by
  have h1 := h q cs hq
  refine h1.far (p := ⟨g, k, none⟩) (fun e => ?_) u
  have e : q = g := e
  exact KT.ne h1 hr (by rw [e]; rfl)
theorem KT.app (h : KT w W) (hr : R1 5 .u8 W base v l) (hg : (W.alloc o).grownBy W' v.ownBlock) : KT w W' := fun q cs hq => by
  have h1 := h q cs hq
  exact (hg.block q (h1.alloc o).lt (fun e => KT.ne h1 hr e.symm)).trans (h1.alloc o)
end
set_option maxRecDepth 100000 in
set_option maxHeartbeats 4000000 in
theorem put_any (g k n : Nat) (st : List Nat × Nat) (w : World) (hw : Wr w g (g + 1) st) (hk : Sq.WOk st) (hn : n ≤ 15) (hkb : k < 32768) (hl : st.1.length + n ≤ 1000000000000) :
    Calls Tryd.prog 12 #[.pointer (some ⟨g, 0, none⟩), .int .i64 k, .int .i64 n] w fun e w' => e = .returned (.tuple #[]) ∧ Below g w w' ∧ Wr w' g (g + 1) (Sq.putF k n st) ∧ Sq.WOk (Sq.putF k n st) ∧ KT w w' := by
  have HW := Lib.hid hw
  have HK := Lib.hid hk
  clear hw hk
  go_enter Tryd.func12, Tryd.ntmps12
  go_wp2_with fail
  go_loopw [6] (fun u6 wr => ∃ (i : Nat) (s2 : List Nat × Nat), i ≤ n ∧ u6 = .int .i64 ((i : Int) - 1) ∧ s2.1.length ≤ st.1.length + (n - i) ∧ Hid (Below g w wr) ∧ Hid (Wr wr g (g + 1) s2) ∧ Hid (Sq.WOk s2) ∧ Hid (Sq.putF k i s2 = Sq.putF k n st) ∧ Hid (KT w wr)) (fun u _ => (intOf u + 1).toNat)
  case atStart => exact ⟨n, st, by omega, by go_num, by omega, Lib.hid (Below.refl _ _), HW, HK, Lib.hid rfl, Lib.hid (KT.refl _)⟩
  case round =>
    clear HW HK
    obtain ⟨i, s2, hi, rfl, hl2, HB, HW, HK, HP, HKT⟩ := hrel
    obtain ⟨bs, fr⟩ := s2
    obtain ⟨v, hblk, hr1⟩ := HW.out
    simp only [] at hblk hr1 hl2
    obtain ⟨A, cc, rfl⟩ := hr1.shape
    have c0 := hblk.cell 0
    have c1 := hblk.cell 1
    have f0 := hblk.frozen 0
    have f1 := hblk.frozen 1
    simp at c0 c1
    have HR1 := Lib.hid hr1
    have HBL := Lib.hid hblk
    clear hblk hr1
    rcases i with _ | j
    · go_wp2_with fail
      (try simp only [Exit.inBlock, Exit.then])
      refine bodyPost_end (v := .tuple #[]) (by simp [results, Tryd.results12]) rfl ?_
      exact ⟨rfl, HB.out, HP.out ▸ HW.out, HP.out ▸ HK.out, HKT.out⟩
    · have ej : (((j + 1 : Nat) : Int) - 1) = (j : Int) := by omega
      rw [ej]
      by_cases hf : fr = 0
      · subst hf
        have HLn := Lib.hid (show bs.length + 1 ≤ 1099511627776 by omega)
        have hgs := Lib.hid (show g + 1 ≤ wr.heap.size from HBL.out.lt)
        have hag : g + 1 ≤ wr.heap.size := hgs.out
        clear c1
        have c1 : wr.cell? ⟨g, 1, none⟩ = some (.int .i64 0) := by have := HBL.out.cell 1; simpa using this
        go_wp2_with (at_builtin; refine wp_appB rfl _ _ rfl (g + 1) _ _ rfl HR1.out _ 0 rfl rfl ?_ ?_ ?_; (exact HLn.out); (exact hgs.out); intro v2 w2 hr2 hb2 hg2; obtain ⟨A2, m2, c2, rfl⟩ := hr2.shp; have HR2 := Lib.hid hr2; have HB2 := Lib.hid (HB.out.trans (hb2.mono (Nat.le_succ _))); have HBL2 := Lib.hid (HBL.out.below hb2 (Nat.lt_succ_self _)); have HKT2 := Lib.hid (HKT.out.app HR1.out hg2); have k0 := HBL2.out.frozen 0; have k1 := HBL2.out.frozen 1; have m0 := HBL2.out.cell 0; have m1 := HBL2.out.cell 1; simp at m0 m1; clear hr2 hb2 hg2)
        obtain ⟨bs', hbs'⟩ : ∃ bs', bs' = bs ++ [0] := ⟨_, rfl⟩
        obtain ⟨m, hm⟩ : ∃ m, m = bs.length := ⟨_, rfl⟩
        have hmb : m ≤ 1000000000000 := by omega
        have hlen : bs'.length = m + 1 := by rw [hbs', List.length_append, hm]; rfl
        have bm : m < bs'.length := by omega
        have hbm : bs'[m] = 0 := by
          have e : bs'[m]? = some 0 := by rw [hbs', hm, List.getElem?_append_right (Nat.le_refl _), Nat.sub_self]; rfl
          rw [List.getElem?_eq_getElem bm] at e
          injection e
        have hr2 := HR2.out
        rw [← hbs'] at hr2
        have e2 : m2 = bs'.length := by
          obtain ⟨A9, c9, e9⟩ := hr2.shape
          injection e9
        subst e2
        obtain ⟨a, hgA⟩ : ∃ a, A2 = some ⟨a, 0, none⟩ := by
          obtain ⟨a, c', e, -, -⟩ := hr2.form (by omega)
          injection e with e1
          exact ⟨a, e1⟩
        subst hgA
        have hag2 : g + 1 ≤ a := (hr2.lt a rfl).1
        have hfar : ∀ (W : World) (k : Nat) (u : Value), R1 5 .u8 W (g + 1) (.slice (some ⟨a, 0, none⟩) bs'.length c2) bs' → R1 5 .u8 (W.setCell ⟨g, k, none⟩ u) (g + 1) (.slice (some ⟨a, 0, none⟩) bs'.length c2) bs' := fun W k u h =>
          h.far (p := ⟨g, k, none⟩) (fun z hz => by have := (h.lt z hz).1; show z ≠ g; omega) u
        have hr5 := hfar _ 1 (.int .i64 7) (hfar _ 1 (.int .i64 8) (hfar _ 0 (.slice (some ⟨a, 0, none⟩) bs'.length c2) hr2))
        have hb5 := ((HBL2.out.set_ 0 (.slice (some ⟨a, 0, none⟩) bs'.length c2)).set_ 1 (.int .i64 8)).set_ 1 (.int .i64 7)
        have HB5 := Lib.hid (((HB2.out.setCell (p := ⟨g, 0, none⟩) (Nat.le_refl _) (.slice (some ⟨a, 0, none⟩) bs'.length c2)).setCell (p := ⟨g, 1, none⟩) (Nat.le_refl _) (.int .i64 8)).setCell (p := ⟨g, 1, none⟩) (Nat.le_refl _) (.int .i64 7))
        have HKT5 := Lib.hid (((HKT2.out.setw HBL2.out 0 (.slice (some ⟨a, 0, none⟩) bs'.length c2)).setw (HBL2.out.set_ 0 (.slice (some ⟨a, 0, none⟩) bs'.length c2)) 1 (.int .i64 8)).setw ((HBL2.out.set_ 0 (.slice (some ⟨a, 0, none⟩) bs'.length c2)).set_ 1 (.int .i64 8)) 1 (.int .i64 7))
        obtain ⟨W5, hW5⟩ : ∃ W5, W5 = ((w2.setCell ⟨g, 0, none⟩ (.slice (some ⟨a, 0, none⟩) bs'.length c2)).setCell ⟨g, 1, none⟩ (.int .i64 8)).setCell ⟨g, 1, none⟩ (.int .i64 7) := ⟨_, rfl⟩
        rw [← hW5] at hb5 hr5 HB5 HKT5
        rw [← hW5]
        have hb6 : Blk W5 g 40 #[.slice (some ⟨a, 0, none⟩) bs'.length c2, .int .i64 ((7 : Nat) : Int)] := by simpa using hb5
        have d0 := hb6.drew.cell 0
        have d1 := hb6.drew.cell 1
        simp at d0 d1
        have dx := hr5.drew.cell rfl bm
        rw [hbm] at dx
        have dx2 : W5.drew.cell? ⟨a, m, none⟩ = some (.int .u8 0) := dx
        have dfz := hr5.drew.frozen rfl m
        have em : (bs'.length : Int) - 1 = (m : Int) := by omega
        have HBL5 := Lib.hid hb6
        have HR5 := Lib.hid hr5
        obtain ⟨b, hb⟩ : ∃ b, b = k / 2 ^ j % 2 := ⟨_, rfl⟩
        obtain ⟨o1, o2, o3⟩ := or_bit (f := 7) (b := b) (x := 0) (by omega) (by omega) (by omega) (by decide)
        obtain ⟨y, hy⟩ : ∃ y, y = 0 + b * 2 ^ 7 := ⟨_, rfl⟩
        rw [← hy] at o1 o2 o3
        have o1' : bits .or .u8 0 ((b : Int) % 256 * 128 % 256) = (y : Int) := o1
        have hpb : Sq.pb (bs, 0) b = (bs'.set m y, 7) := by
          unfold Sq.pb
          rw [if_pos rfl, hbs', hm, hy]
          simp
        have HPB := Lib.hid (show Sq.putF k j (bs'.set m y, 7) = Sq.putF k n st by rw [← HP.out, Sq.putF, ← hb, hpb])
        have hset : (bs'.set m y).length = bs'.length := List.length_set
        have HOK := Lib.hid (show Sq.WOk (bs'.set m y, 7) by
          have e9 : (bs'.set m y).getD ((bs'.set m y).length - 1) 0 = y := by
            rw [hset, show bs'.length - 1 = m by omega, List.getD_eq_getElem?_getD, List.getElem?_set_self bm]
            rfl
          refine ⟨by show 7 ≤ 7; omega, fun h => ?_, ?_, ?_⟩
          · have : (bs'.set m y).length = 0 := by rw [show bs'.set m y = [] from h]; rfl
            omega
          · show (bs'.set m y).getD ((bs'.set m y).length - 1) 0 < 256
            rw [e9]; exact o2
          · show (bs'.set m y).getD ((bs'.set m y).length - 1) 0 % 2 ^ 7 = 0
            rw [e9]; exact o3)
        have HWN : Hid (∀ y' : Int, y' = (y : Int) → Wr ((W5.setCell ⟨a, m, none⟩ (.int .u8 y')).drew) g (g + 1) (bs'.set m y, 7)) := fun y' hy' => by
          have h1 := HR5.out.set rfl m y hy'
          refine ⟨.slice (some ⟨a, 0, none⟩) bs'.length c2, ?_, ?_⟩
          · exact (Blk.far HBL5.out (p := ⟨a, m, none⟩) (by show g ≠ a; omega) _).drew
          · have h2 := h1.drew
            exact h2
        have HB6 := Lib.hid (below_drew2 (HB5.out.setCell (p := ⟨a, m, none⟩) (by show g ≤ a; omega) (.int .u8 (y : Int))))
        have HKT6 := Lib.hid (show KT w ((W5.setCell ⟨a, m, none⟩ (.int .u8 (y : Int))).drew) from (HKT5.out.setr HR5.out m (.int .u8 (y : Int))).drew)
        have HLS := Lib.hid (show (bs'.set m y).length = bs.length + 1 by omega)
        have hand := and1k k j hkb
        rw [← hb] at hand
        have HAND := Lib.hid hand
        have HO := Lib.hid o1'
        clear hr5 hb5 hb6 hW5 dx hr2 hbm hbs' hpb hy o1 o1' o2 o3 hset hfar hand hb k0 k1 m0 m1 HB HW HBL HR1 HB2 HBL2 HR2 hm
        go_region
        rw [HAND.out, HO.out]
        go_wp2_with fail
        go_roundw
        case rel => exact ⟨j, (bs'.set m y, 7), by omega, by first | rfl | go_num, by rw [HLS.out]; omega, HB6, Lib.hid (HWN.out _ rfl), HOK, HPB, HKT6⟩
        case measure => simp [intOf] <;> omega
      · have hfz : ((fr : Int) == 0) = false := by rw [beq_eq_false_iff_ne]; omega
        have hfr7 := HK.out.1
        have hne : bs ≠ [] := fun h => hf (HK.out.2.1 h)
        simp only [] at hfr7
        obtain ⟨m, hm⟩ : ∃ m, bs.length = m + 1 := ⟨bs.length - 1, by have := List.length_pos_iff.2 hne; omega⟩
        obtain ⟨f, hff⟩ : ∃ f, fr = f + 1 := ⟨fr - 1, by omega⟩
        have ef : (fr : Int) - 1 = (f : Int) := by omega
        have em : (bs.length : Int) - 1 = (m : Int) := by omega
        have bm : m < bs.length := by omega
        obtain ⟨a, hgA⟩ : ∃ a, A = some ⟨a, 0, none⟩ := by
          obtain ⟨a, c', e, -, -⟩ := HR1.out.form (by omega)
          injection e with e1
          exact ⟨a, e1⟩
        subst hgA
        have hag : g + 1 ≤ a := (HR1.out.lt a rfl).1
        have hb5 := HBL.out.set_ 1 (.int .i64 (f : Int))
        have hr5 := HR1.out.far (p := ⟨g, 1, none⟩) (fun z hz => by have := (HR1.out.lt z hz).1; show z ≠ g; omega) (.int .i64 (f : Int))
        have HB5 := Lib.hid (HB.out.setCell (p := ⟨g, 1, none⟩) (Nat.le_refl _) (.int .i64 (f : Int)))
        have HKT5 := Lib.hid (HKT.out.setw HBL.out 1 (.int .i64 (f : Int)))
        have HM := Lib.hid hm
        have HF := Lib.hid hff
        clear hm hff hf hne hfz
        have hfz : ((fr : Int) == 0) = false := by rw [beq_eq_false_iff_ne]; have := HF.out; omega
        go_wp2_with fail
        obtain ⟨W5, hW5⟩ : ∃ W5, W5 = wr.setCell ⟨g, 1, none⟩ (.int .i64 (f : Int)) := ⟨_, rfl⟩
        rw [← hW5] at hb5 hr5 HB5 HKT5
        try rw [← hW5]
        have d0 := hb5.drew.cell 0
        have d1 := hb5.drew.cell 1
        simp at d0 d1
        have dx := hr5.drew.cell rfl bm
        have dfz := hr5.drew.frozen rfl m
        have HBL5 := Lib.hid hb5
        have HR5 := Lib.hid hr5
        obtain ⟨x, hx⟩ : ∃ x, x = bs[m] := ⟨_, rfl⟩
        rw [← hx] at dx
        have HX := Lib.hid hx
        clear hb5 hr5 c0 c1 f0 f1 hW5 hx HB HW HBL HR1
        go_region
        have hk9 := HK.out
        have hlen := HM.out
        have hgd : bs.getD (bs.length - 1) 0 = x := by
          rw [HX.out, List.getD_eq_getElem?_getD, show bs.length - 1 = m by omega, List.getElem?_eq_getElem bm]
          rfl
        obtain ⟨-, -, hk1, hk2⟩ := hk9
        simp only [] at hk1 hk2
        rw [hgd] at hk1 hk2
        rw [HF.out] at hk2
        obtain ⟨b, hb⟩ : ∃ b, b = k / 2 ^ j % 2 := ⟨_, rfl⟩
        obtain ⟨o1, o2, o3⟩ := or_bit (f := f) (b := b) (x := x) (by omega) (by omega) hk1 hk2
        obtain ⟨y, hy⟩ : ∃ y, y = x + b * 2 ^ f := ⟨_, rfl⟩
        rw [← hy] at o1 o2 o3
        rw [and1k k j hkb, ← hb, o1]
        have hpb : Sq.pb (bs, fr) b = (bs.set m y, f) := by
          rw [hy]
          unfold Sq.pb
          rw [if_neg (show ¬ fr = 0 by omega)]
          show (bs.set (bs.length - 1) (bs.getD (bs.length - 1) 0 + b * 2 ^ (fr - 1)), fr - 1) = _
          rw [hgd, show bs.length - 1 = m by omega, show fr - 1 = f by omega]
        have HPB := Lib.hid (show Sq.putF k j (bs.set m y, f) = Sq.putF k n st by rw [← HP.out, Sq.putF, ← hb, hpb])
        have hset : (bs.set m y).length = bs.length := List.length_set
        have HOK := Lib.hid (show Sq.WOk (bs.set m y, f) by
          have e9 : (bs.set m y).getD ((bs.set m y).length - 1) 0 = y := by
            rw [hset, show bs.length - 1 = m by omega, List.getD_eq_getElem?_getD, List.getElem?_set_self bm]
            rfl
          refine ⟨by show f ≤ 7; omega, fun h => ?_, ?_, ?_⟩
          · have : (bs.set m y).length = 0 := by rw [show bs.set m y = [] from h]; rfl
            omega
          · show (bs.set m y).getD ((bs.set m y).length - 1) 0 < 256
            rw [e9]; exact o2
          · show (bs.set m y).getD ((bs.set m y).length - 1) 0 % 2 ^ f = 0
            rw [e9]; exact o3)
        have HWN : Hid (∀ y' : Int, y' = (y : Int) → Wr ((W5.setCell ⟨a, m, none⟩ (.int .u8 y')).drew) g (g + 1) (bs.set m y, f)) := fun y' hy' => by
          have h1 := HR5.out.set rfl m y hy'
          refine ⟨.slice (some ⟨a, 0, none⟩) bs.length cc, ?_, h1.drew⟩
          exact (Blk.far HBL5.out (p := ⟨a, m, none⟩) (by show g ≠ a; omega) _).drew
        have HB6 := Lib.hid (below_drew2 (HB5.out.setCell (p := ⟨a, m, none⟩) (by show g ≤ a; omega) (.int .u8 (y : Int))))
        have HKT6 := Lib.hid (show KT w ((W5.setCell ⟨a, m, none⟩ (.int .u8 (y : Int))).drew) from (HKT5.out.setr HR5.out m (.int .u8 (y : Int))).drew)
        have HLS := Lib.hid hset
        clear hpb hy hb o1 o2 o3 hk1 hk2 hgd hlen hset
        go_wp2_with fail
        go_roundw
        case rel => exact ⟨j, (bs.set m y, f), by omega, by first | rfl | go_num, by rw [HLS.out]; omega, HB6, Lib.hid (HWN.out _ rfl), HOK, HPB, HKT6⟩
        case measure => simp [intOf] <;> omega
end Go.Proofs.YtcojoigbcfaajaaDoor
