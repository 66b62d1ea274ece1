/- squash: Pack's walk. -/
import Derived.Test.YtcojoigbcfaajaaDoorSqAd
import Derived.Test.YtcojoigbcfaajaaDoorSqAp
import Derived.Test.YtcojoigbcfaajaaDoorSqR
import Derived.Deep.RegionHeld3
import Derived.Deep.Cut
import Derived.Deep.CutRange
import Derived.Deep.DeepCutAuto
namespace Go.Proofs.YtcojoigbcfaajaaDoor
open Go.RowKit
section
variable {ops : Array Oper} {rest : List Oper} {o : Oper} {a : Act} {Q : Exit → Act → World → Prop}
/-- append of a row of bytes. -/
theorem wp_appLB {w : World} (hgd : o.guard = none) (s x : Operand) (ho : o.op = .call { callee := .builtin .append, args := #[s, x], argTypes := #[29, 29] })
    (base : Nat) (v : Value) (l : List Nat) (hs : a.eval s = v) (hown : R1 5 .u8 w base v l) (g n c base2 : Nat) (l2 : List Nat) (hx : a.eval x = .slice (some ⟨g, 0, none⟩) n c) (h2 : R1 5 .u8 w base2 (.slice (some ⟨g, 0, none⟩) n c) l2)
    (hlen : l.length + l2.length ≤ 1099511627776) (hbase : base ≤ w.heap.size)
    (h : ∀ v' w', R1 5 .u8 w' base v' (l ++ l2) → Below base w w' → wpList Tryd.prog ops Q rest (a.put o.dst v') w') :
    wpList Tryd.prog ops Q (o :: rest) a w := by
  obtain ⟨i0, hi, hz0, hz1, hz2⟩ := info_parts u8_info
  have hn : l2.length = n := by
    obtain ⟨A, c', e⟩ := h2.shape
    injection e with _ e _
    exact e.symm
  refine wpList_append_own_at _ hgd s x 29 ho base 5 i0 (.int .u8 0) 1 1 Tryd.underlying29 hi hz0 hz1 hz2 rfl (by decide) v l.length _ hs hown ⟨g, 0, none⟩ n c (l2.map fun (x : Nat) => Value.int .u8 (x : Int)) hx (by simp [hn]) (h2.nums hn) (fun u hu => by obtain ⟨x, -, rfl⟩ := List.mem_map.1 hu; rfl) (by unfold maxLen; omega) (by omega) (by omega) ?_
  intro v' w' h1 h3 _ _
  refine h v' w' ?_ ((Below.refl _ _).grown h3 hbase (fun k hk => ((World.ownsRow.lt hown) k hk).1))
  unfold R1
  rw [List.map_append, List.length_append, hn]
  exact h1
end
/-- Bytes as a string. -/
theorem str_r {W : World} {base : Nat} {v : Value} {o : List Nat} (hr : R1 5 .u8 W base v o) (hB : Sq.Byt o) : (convert 29 9 v).run Tryd.prog W = .ok (.string (Sq.toB o)) W := by
  rcases hr.2 with ⟨rfl, h0⟩ | ⟨g, cap, cur, rfl, -⟩
  · have : o = [] := List.length_eq_zero_iff.1 h0
    subst this
    exact run_convert_bytes_nil W 29 5 Tryd.underlying29 Tryd.underlying5 0 0 _ Tryd.underlying9
  · have hb := run_convert_bytes_back W 29 9 5 ⟨g, 0, none⟩ cap (o.map UInt8.ofNat) Tryd.underlying29 Tryd.underlying5 Tryd.underlying9 (fun j hj => by
      have hj' : j < o.length := by simpa using hj
      rw [Addr.add_lit, Nat.zero_add, hr.cell rfl hj']
      have := hB _ (List.getElem_mem hj')
      simp
      omega)
    rw [List.length_map] at hb
    exact hb
set_option maxRecDepth 100000 in
set_option maxHeartbeats 8000000 in
theorem pack_any (s : ByteArray) (w : World) (he : SEnv w) (hs : s.size ≤ 1073741824) :
    Calls Tryd.prog 5 #[.string s] w fun e w' => e = .returned (.string (Sq.toB (Sq.packF s))) ∧ Below w.heap.size w w' := by
  have HE := Lib.hid he
  obtain ⟨RT, hRT⟩ : ∃ RT, RT = Sq.toB (Sq.packF s) := ⟨_, rfl⟩
  have HRT := Lib.hid hRT
  rw [← hRT]
  clear he hRT
  go_enter Tryd.func5, Tryd.ntmps5
  go_upto_if 29 with fail
  obtain ⟨W0, hW0⟩ : ∃ W0, W0 = w.alloc (.cells #[.int .u8 ((s.size : Int) / 16777216), .int .u8 ((s.size : Int) / 65536 % 256), .int .u8 ((s.size : Int) / 256 % 256), .int .u8 ((s.size : Int) % 256), .int .u8 0] 5) := ⟨_, rfl⟩
  have hh0 : R1 5 .u8 W0 w.heap.size (.slice (some ⟨w.heap.size, 0, none⟩) 5 5) (Sq.hd4 s.size ++ [0]) := by
    rw [hW0]
    refine ⟨rfl, .inr ⟨w.heap.size, 5, _, rfl, Nat.le_refl _, heap_alloc_new _ _, Nat.le_refl _, by unfold maxLen; decide, rfl, ?_⟩⟩
    unfold Sq.hd4
    rw [Nat.mod_eq_of_lt (show s.size / 16777216 < 256 by omega)]
    rfl
  have hb0 : Below w.heap.size w W0 := by rw [hW0]; exact (Below.refl _ _).alloc (Nat.le_refl _) _
  have hs0 : W0.heap.size = w.heap.size + 1 := by rw [hW0]; exact Array.size_push _
  rw [← hW0]
  have HH := Lib.hid hh0
  have HB := Lib.hid hb0
  have HS0 := Lib.hid hs0
  have HBY := Lib.hid (show Sq.Byt (Sq.hd4 s.size ++ [0]) from fun x hx => by
    simp only [Sq.hd4, List.mem_append, List.mem_cons, List.not_mem_nil, or_false] at hx
    omega)
  have he0 := HE.out.below hb0
  have HE0 := Lib.hid he0
  have hlen : s.size ≤ 9223372036854775807 := by omega
  clear hW0 hh0 hb0 hs0 he0
  by_cases hn : 0 < s.size
  · have hT := Sq.tokF_ok s
    have hTp := Sq.tokF_pos s hn
    have HCT := Lib.hid (tokens_any s W0 HE0.out hn hs)
    obtain ⟨l, hl⟩ : ∃ l, l = Sq.tokF s := ⟨_, rfl⟩
    rw [← hl] at hT hTp HCT
    have HL := Lib.hid hl
    obtain ⟨hT1, hT2⟩ := hT
    have hsym : ∀ t ∈ l, t.1 < 272 := fun t ht => (hT1 t ht).1
    have hgood := Sq.lg_good l hTp hsym
    have HCL := Lib.hid fun (v : Value) (B0 : Nat) (W : World) (h : RowOf 43 4 Sq.tokV W B0 v l) => lens_any l v B0 W h hTp (by omega) hsym
    obtain ⟨L, hLe⟩ : ∃ L, L = Sq.lgF l := ⟨_, rfl⟩
    rw [← hLe] at hgood HCL
    have HLE := Lib.hid hLe
    have HG := Lib.hid hgood
    have HT1 := Lib.hid hT1
    have hTb : l.length ≤ 1073741824 := by omega
    clear hl hT1 hT2 hsym hgood hLe
    go_upto_region 8 with (first
      | (go_at_call 9; (with_reducible refine HCT.out.mono ?_); rintro e w1 ⟨v, rfl, hv, hb⟩; have HV1 := Lib.hid hv; have HB1 := Lib.hid hb; clear hv hb)
      | (go_at_call 10; (with_reducible refine (HCL.out _ _ _ HV1.out).mono ?_); rintro e w2 ⟨gL, rfl, hL, hb⟩; have HL2 := Lib.hid hL; have HB2 := Lib.hid hb; clear hL hb)
      | (go_at_call 11; (with_reducible refine (codes_any L gL 272 _ _ HL2.out).mono ?_); rintro e w3 ⟨gC, rfl, hC, hb⟩; have HC3 := Lib.hid hC; have HB3 := Lib.hid hb; clear hC hb))
    have hgL := HL2.out.lt
    have hgC := HC3.out.lt
    have HLc := Lib.hid (HL2.out.later HB3.out)
    have HVc := Lib.hid ((HV1.out.later HB2.out).later HB3.out)
    have HBc := Lib.hid (((HB.out.trans (HB1.out.mono HB.out.size)).trans (HB2.out.mono (Nat.le_trans HB.out.size HB1.out.size))).trans (HB3.out.mono (Nat.le_trans HB.out.size (Nat.le_trans HB1.out.size HB2.out.size))))
    have HHc := Lib.hid (((HH.out.later HB1.out).later HB2.out).later HB3.out)
    obtain ⟨gw, hgw⟩ : ∃ gw, gw = w3.heap.size := ⟨_, rfl⟩
    have HGW := Lib.hid hgw
    have HWc := Lib.hid (show Wr (w3.alloc (.cells #[.slice none 0 0, .int .i64 0] 40)) gw (gw + 1) ([], 0) from ⟨.slice none 0 0, by rw [hgw]; exact Blk.new _ _ _, R1.nil _ _⟩)
    have HAc := Lib.hid (show Below gw w3 (w3.alloc (.cells #[.slice none 0 0, .int .i64 0] 40)) by rw [hgw]; exact (Below.refl _ _).alloc (Nat.le_refl _) _)
    rw [← hgw]
    obtain ⟨w4, hw4⟩ : ∃ w4, w4 = w3.alloc (.cells #[.slice none 0 0, .int .i64 0] 40) := ⟨_, rfl⟩
    rw [← hw4] at HWc HAc
    rw [← hw4]
    have HGL := Lib.hid (show gL < gw by rw [hgw]; exact HLc.out.lt.2)
    have HGC := Lib.hid (show gC < gw by rw [hgw]; exact HC3.out.lt.2)
    clear hgL hgC hgw hw4 HL2 HV1 HB1 HB2 HB3 HH HCT HCL
    go_wp2_with fail
    go_loopw [43] (fun u43 wr => ∃ i : Nat, i ≤ 272 ∧ u43 = .int .i64 i ∧ Hid (Wr wr gw (gw + 1) (Sq.hdG L i)) ∧ Hid (Sq.WOk (Sq.hdG L i) ∧ Sq.Byt (Sq.hdG L i).1 ∧ (Sq.hdG L i).1.length ≤ 4 * i) ∧ Hid (Below gw w3 wr)) (fun u _ => 272 - (intOf u).toNat)
    case atStart => exact ⟨0, by omega, rfl, HWc, Lib.hid ⟨Sq.WOk0, Sq.Byt.nil, (by decide : 0 ≤ 0)⟩, HAc⟩
    case round =>
      clear HWc HAc
      obtain ⟨i, hi, rfl, HW, HO, HA⟩ := hrel
      by_cases hlt : i < 272
      · have hlz : (i : Int) < 272 := by omega
        have hcL := (HLc.out.chg (Chg.of HA.out []) HGL.out (by simp)).cell hlt
        have h15 := HG.out.2.1 i
        obtain ⟨k, hk⟩ : ∃ k, k = L i := ⟨_, rfl⟩
        rw [← hk] at hcL h15
        have HK := Lib.hid hk
        have HP := Lib.hid (show Calls Tryd.prog 12 #[.pointer (some ⟨gw, 0, none⟩), .int .i64 k, .int .i64 4] wr _ from put_any gw k 4 (Sq.hdG L i) wr HW.out HO.out.1 (by decide) (by omega) (by have := HO.out.2.2; omega))
        clear hk
        go_wp2_with (go_at_call 12; (with_reducible refine HP.out.mono ?_); rintro e w5 ⟨rfl, hb, hw, ho, -⟩; have HW5 := Lib.hid hw; have HB5 := Lib.hid (HA.out.trans hb); clear hb hw ho)
        go_roundw
        case rel =>
          have hok := Sq.putF_ok k 4 (Sq.hdG L i) HO.out.1 HO.out.2.1
          have hln := Sq.putF_len k 4 (Sq.hdG L i)
          have e9 : Sq.hdG L (i + 1) = Sq.putF k 4 (Sq.hdG L i) := by rw [Sq.hdG, HK.out]
          exact ⟨i + 1, by omega, by go_num, Lib.hid (by rw [e9]; exact HW5.out), Lib.hid (by rw [e9]; exact ⟨hok.1, hok.2, by have := HO.out.2.2; omega⟩), HB5⟩
        case measure => simp [intOf]; omega
      · obtain rfl : i = 272 := by omega
        have hbod : Sq.bodF L l = (l.foldl (Sq.ptT L) (Sq.hdG L 272)).1 := rfl
        obtain ⟨st0, hst0⟩ : ∃ st0, st0 = Sq.hdG L 272 := ⟨_, rfl⟩
        have hw9 := HW.out
        have ho9 := HO.out
        rw [← hst0] at hw9 ho9 hbod
        have hp0 : 0 < st0.1.length := by rw [hst0]; exact Sq.hdG_pos L 271
        have HP0 := Lib.hid hp0
        have HBD := Lib.hid hbod
        clear hst0 hbod HW HO hp0
        have HW := Lib.hid hw9
        have HO := Lib.hid (show Sq.WOk st0 ∧ Sq.Byt st0.1 ∧ st0.1.length ≤ 1088 from ho9)
        clear hw9 ho9
        have hv1 := HVc.out.form hTp
        obtain ⟨gt, ct, rfl, hgt0, hgt⟩ := hv1
        have HGT := Lib.hid (show gt < gw by rw [HGW.out]; exact hgt)
        have HRD := Lib.hid (HVc.out.reads (fun x => (tk_len x).1))
        clear hgt hgt0
        go_wp2_with fail
        go_loopw [53] (fun u53 wr => ∃ j : Nat, j ≤ l.length ∧ u53 = .int .i64 j ∧ Hid (Wr wr gw (gw + 1) ((l.take j).foldl (Sq.ptT L) st0)) ∧ Hid (Sq.WOk ((l.take j).foldl (Sq.ptT L) st0) ∧ Sq.Byt ((l.take j).foldl (Sq.ptT L) st0).1 ∧ ((l.take j).foldl (Sq.ptT L) st0).1.length ≤ 1088 + 45 * j) ∧ Hid (Below gw w3 wr)) (fun u _ => l.length - (intOf u).toNat)
        case atStart => exact ⟨0, by omega, rfl, HW, Lib.hid ⟨HO.out.1, HO.out.2.1, HO.out.2.2⟩, HA⟩
        case round =>
          clear HW HO HA
          obtain ⟨j, hj, rfl, HW, HO, HA⟩ := hrel
          by_cases hlt : j < l.length
          · have hlz : (j : Int) < l.length := by omega
            obtain ⟨A', c', e', -, -, hrd⟩ := HRD.out.below (show Below w3.heap.size w3 wr by rw [← HGW.out]; exact HA.out)
            injection e' with e1 _ e3
            obtain ⟨b, p, e4, hblt, hcell⟩ := hrd hTp
            rw [← e1] at e4
            injection e4 with e5
            injection e5 with e6 e7
            subst e6 e7
            have htok := HT1.out l[j] (List.getElem_mem hlt)
            have hlen1 := HG.out.2.2 l[j] (List.getElem_mem hlt)
            have hts : l.take (j + 1) = l.take j ++ [l[j]] := by rw [List.take_add_one, List.getElem?_eq_getElem hlt]; rfl
            obtain ⟨⟨t0, t1, t2, t3⟩, htk⟩ : ∃ x, x = l[j] := ⟨_, rfl⟩
            rw [← htk] at htok hts hlen1
            obtain ⟨b0, b1, b2, b3⟩ := htok
            simp only [] at b0 b1 b2 b3 hlen1
            have g0 : wr.cell? ⟨gt, j * 4, none⟩ = some (.int .i64 (t0 : Int)) := by have := hcell j hlt 0 (by decide); rw [← htk, Nat.zero_add] at this; exact this
            have g1 : wr.cell? ⟨gt, j * 4 + 1, none⟩ = some (.int .i64 (t1 : Int)) := by have := hcell j hlt 1 (by decide); rw [← htk, Nat.zero_add] at this; exact this
            have g2 : wr.cell? ⟨gt, j * 4 + 2, none⟩ = some (.int .i64 (t2 : Int)) := by have := hcell j hlt 2 (by decide); rw [← htk, Nat.zero_add] at this; exact this
            have g3 : wr.cell? ⟨gt, j * 4 + 3, none⟩ = some (.int .i64 (t3 : Int)) := by have := hcell j hlt 3 (by decide); rw [← htk, Nat.zero_add] at this; exact this
            have hcL := (HLc.out.chg (Chg.of HA.out []) HGL.out (by simp)).cell b0
            have hcC := (HC3.out.chg (Chg.of HA.out []) HGC.out (by simp)).cell b0
            have hcd := Sq.cd_lt L HG.out.1 t0 b0
            have h15 := HG.out.2.1 t0
            obtain ⟨k0, hk0⟩ : ∃ k0, k0 = Sq.cd L t0 := ⟨_, rfl⟩
            obtain ⟨n0, hn0⟩ : ∃ n0, n0 = L t0 := ⟨_, rfl⟩
            rw [← hk0] at hcC hcd
            rw [← hn0] at hcL h15
            obtain ⟨ST, hST⟩ : ∃ ST, ST = (l.take j).foldl (Sq.ptT L) st0 := ⟨_, rfl⟩
            rw [← hST] at HW HO
            have HNX := Lib.hid (show (l.take (j + 1)).foldl (Sq.ptT L) st0 = if 256 ≤ t0 then Sq.putF t3 15 (Sq.putF t1 t2 (Sq.putF k0 n0 ST)) else Sq.putF k0 n0 ST by
              rw [hts, List.foldl_append, ← hST, hk0, hn0]
              rfl)
            obtain ⟨WT, hWT⟩ : ∃ WT, WT = wr.alloc (.cells #[.int .i64 (t0 : Int), .int .i64 (t1 : Int), .int .i64 (t2 : Int), .int .i64 (t3 : Int)] 43) := ⟨_, rfl⟩
            have hgwr : gw < wr.heap.size := by
              obtain ⟨v9, h9, -⟩ := HW.out
              exact h9.lt
            have HWT := Lib.hid (show Wr WT gw (gw + 1) ST by
              obtain ⟨v9, h9, h8⟩ := HW.out
              rw [hWT]
              exact ⟨v9, h9.alloc _, h8.alloc _⟩)
            have HWD := Lib.hid (show Wr (World.drew WT) gw (gw + 1) ST from HWT.out)
            have HBT := Lib.hid (show Blk WT wr.heap.size 43 #[.int .i64 (t0 : Int), .int .i64 (t1 : Int), .int .i64 (t2 : Int), .int .i64 (t3 : Int)] by rw [hWT]; exact Blk.new _ _ _)
            have HAT := Lib.hid (show Below gw w3 WT by rw [hWT]; exact HA.out.alloc (by omega) _)
            have hsv := (HLc.out.chg (Chg.of HAT.out []) HGL.out (by simp)).cell b0
            have hsw := (HC3.out.chg (Chg.of HAT.out []) HGC.out (by simp)).cell b0
            rw [← hn0] at hsv
            rw [← hk0] at hsw
            have hlnb : ST.1.length ≤ 100000000000 := by have := HO.out.2.2; omega
            have HLNB := Lib.hid hlnb
            have HOK1 := Lib.hid (Sq.putF_ok k0 n0 ST HO.out.1 HO.out.2.1)
            have HLN1 := Lib.hid (Sq.putF_len k0 n0 ST)
            have HP := Lib.hid fun (W : World) (h : Wr W gw (gw + 1) ST) => put_any gw k0 n0 ST W h HO.out.1 (by omega) hcd (by omega)
            have q0 := HBT.out.cell 0
            have q1 := HBT.out.cell 1
            have q2 := HBT.out.cell 2
            have q3 := HBT.out.cell 3
            simp at q0 q1 q2 q3
            clear hrd hcell e1 e3 hts htk hk0 hn0 hST hlnb
            go_upto_region 16 with fail
            rw [← hWT]
            clear hWT g0 g1 g2 g3 hcL hcC
            have z1 : (0 : Int) ≤ (t0 : Int) := by omega
            have z2 : (t0 : Int) < 272 := by omega
            go_region_held3 (fun W => W.cell? ⟨wr.heap.size, 0, none⟩ = some (.int .i64 (t0 : Int)) ∧ W.cell? ⟨gL, t0, none⟩ = some (.int .i64 (n0 : Int)) ∧ W.cell? ⟨gC, t0, none⟩ = some (.int .i64 (k0 : Int))) (first | exact ⟨by assumption, by assumption, by assumption⟩ | exact HS5.out) (first
              | (go_at_call 12; (with_reducible refine (HP.out (World.drew WT) HWD.out).mono ?_); rintro e w5 ⟨rfl, hb, hw, ho, hkt⟩; have HW5 := Lib.hid hw; have HB5 := Lib.hid hb; have HA5 := Lib.hid (HAT.out.drew.trans hb); have HT5 := Lib.hid (hkt _ _ HBT.out); have HS5 := Lib.hid (show w5.cell? ⟨wr.heap.size, 0, none⟩ = some (.int .i64 (t0 : Int)) ∧ w5.cell? ⟨gL, t0, none⟩ = some (.int .i64 (n0 : Int)) ∧ w5.cell? ⟨gC, t0, none⟩ = some (.int .i64 (k0 : Int)) from ⟨(hkt _ _ HBT.out).cell 0, (hb.cell (by exact HGL.out)).trans hsv, (hb.cell (by exact HGC.out)).trans hsw⟩); clear hb hw ho hkt))
            all_goals
              have q0 := HT5.out.cell 0
              have q1 := HT5.out.cell 1
              have q2 := HT5.out.cell 2
              have q3 := HT5.out.cell 3
              simp at q0 q1 q2 q3
              by_cases h256 : 256 ≤ t0
              · have h256z : (256 : Int) ≤ (t0 : Int) := by omega
                have HNX2 := Lib.hid (show (l.take (j + 1)).foldl (Sq.ptT L) st0 = Sq.putF t3 15 (Sq.putF t1 t2 (Sq.putF k0 n0 ST)) by rw [HNX.out, if_pos h256])
                obtain ⟨S1, hS1⟩ : ∃ S1, S1 = Sq.putF k0 n0 ST := ⟨_, rfl⟩
                rw [← hS1] at HNX2 HW5 HOK1 HLN1
                have hl1 : S1.1.length ≤ 100000000015 := by have := HLN1.out; have := HLNB.out; omega
                have HP1 := Lib.hid (put_any gw t1 t2 S1 w5 HW5.out HOK1.out.1 (by omega) (by omega) (by omega))
                have HOK2 := Lib.hid (Sq.putF_ok t1 t2 S1 HOK1.out.1 HOK1.out.2)
                have HLN2 := Lib.hid (Sq.putF_len t1 t2 S1)
                obtain ⟨S2, hS2⟩ : ∃ S2, S2 = Sq.putF t1 t2 S1 := ⟨_, rfl⟩
                rw [← hS2] at HNX2 HOK2 HLN2
                have HS2E := Lib.hid hS2
                have hl2 : S2.1.length ≤ 100000000100 := by have := HLN2.out; omega
                have HP2 := Lib.hid fun (W : World) (h : Wr W gw (gw + 1) S2) => show Calls Tryd.prog 12 #[.pointer (some ⟨gw, 0, none⟩), .int .i64 t3, .int .i64 15] W _ from put_any gw t3 15 S2 W h HOK2.out.1 (Nat.le_refl _) b3 (by omega)
                have HOK3 := Lib.hid (Sq.putF_ok t3 15 S2 HOK2.out.1 HOK2.out.2)
                have HLN3 := Lib.hid (Sq.putF_len t3 15 S2)
                clear hS1 hS2 q0 HP
                go_wp2_with (first
                  | (go_at_call 12; (with_reducible refine HP1.out.mono ?_); rintro e w6 ⟨rfl, hb, hw, -, hkt⟩; have HW6 := Lib.hid (show Wr w6 gw (gw + 1) S2 by rw [HS2E.out]; exact hw); have HA6 := Lib.hid (HA5.out.trans hb); have q6 := (hkt _ _ HT5.out).cell 3; simp at q6; clear hb hw hkt)
                  | (go_at_call 12; (with_reducible refine (HP2.out _ HW6.out).mono ?_); rintro e w7 ⟨rfl, hb, hw, -, -⟩; have HW7 := Lib.hid hw; have HA7 := Lib.hid (HA6.out.trans hb); clear hb hw))
                go_roundw
                case rel =>
                  have := HLN1.out
                  have := HLN2.out
                  have := HLN3.out
                  have := HO.out.2.2
                  first | exact ⟨j + 1, by omega, by go_num, Lib.hid (by rw [HNX2.out]; exact HW7.out), Lib.hid (by rw [HNX2.out]; exact ⟨HOK3.out.1, HOK3.out.2, by omega⟩), HA7⟩ | ((repeat apply Exists.intro); exact ⟨⟨j + 1, by omega, by go_num, Lib.hid (by rw [HNX2.out]; exact HW7.out), Lib.hid (by rw [HNX2.out]; exact ⟨HOK3.out.1, HOK3.out.2, by omega⟩), HA7⟩, rfl⟩)
                case measure => simp [intOf] <;> omega
              · have h256z : ¬ (256 : Int) ≤ (t0 : Int) := by omega
                have HNX2 := Lib.hid (show (l.take (j + 1)).foldl (Sq.ptT L) st0 = Sq.putF k0 n0 ST by rw [HNX.out, if_neg h256])
                clear HP
                go_wp2_with fail
                go_roundw
                case rel =>
                  have := HLN1.out
                  have := HO.out.2.2
                  exact ⟨j + 1, by omega, by omega, Lib.hid (by rw [HNX2.out]; exact HW5.out), Lib.hid (by rw [HNX2.out]; exact ⟨HOK1.out.1, HOK1.out.2, by omega⟩)⟩
                case measure => simp [intOf] <;> omega
          · obtain rfl : j = l.length := by omega
            have hw9 := HW.out
            have ho9 := HO.out
            rw [List.take_of_length_le (Nat.le_refl _)] at hw9 ho9
            obtain ⟨st, hst⟩ : ∃ st, st = l.foldl (Sq.ptT L) st0 := ⟨_, rfl⟩
            rw [← hst] at hw9 ho9
            have hbd := HBD.out
            rw [← hst] at hbd
            obtain ⟨v, hwb, hr1⟩ := hw9
            obtain ⟨A, cc, rfl⟩ := hr1.shape
            have HOB := Lib.hid ho9
            have hpos : 0 < st.1.length := by rw [hst]; exact Nat.lt_of_lt_of_le HP0.out (Sq.fold_mono L l st0)
            obtain ⟨bs, hbs⟩ : ∃ bs, bs = st.1 := ⟨_, rfl⟩
            rw [← hbs] at hr1 hwb hbd hpos
            obtain ⟨ga, hga⟩ : ∃ ga, A = some ⟨ga, 0, none⟩ := by
              obtain ⟨ga, c', e, -, -⟩ := hr1.form hpos
              injection e with e1
              exact ⟨ga, e1⟩
            subst hga
            have hga := (hr1.lt ga rfl).1
            have HGA := Lib.hid hga
            clear hga hpos
            have HBY2 := Lib.hid (show Sq.Byt bs by rw [hbs]; exact ho9.2.1)
            have hbl : bs.length ≤ 100000000000 := by rw [hbs]; omega
            have hRT := HRT.out
            unfold Sq.packF at hRT
            rw [← HL.out, ← HLE.out, hbd] at hRT
            have c0 := hwb.cell 0
            have c1 := hwb.cell 1
            simp at c0 c1
            have hhd := HHc.out.chg (Chg.of HA.out []) (fun q hq => ⟨by have := (HHc.out.lt q hq).2; rw [HGW.out]; exact this, by simp⟩)
            have HWB := Lib.hid hwb
            have HR1 := Lib.hid hr1
            have HHd := Lib.hid hhd
            obtain ⟨bl, hbl2⟩ : ∃ bl, bl = bs.length := ⟨_, rfl⟩
            rw [← hbl2] at c0 hbl hRT HR1 HWB
            try rw [← hbl2]
            have HBL2 := Lib.hid hbl2
            by_cases hsm : bl < s.size
            · rw [if_pos ⟨hn, hsm⟩] at hRT
              have HR := Lib.hid hRT
              have hsmz : (bl : Int) < s.size := by omega
              have c4 := hhd.cell rfl (show 4 < (Sq.hd4 s.size ++ [0]).length from (by simp [Sq.hd4]))
              have f4 := hhd.frozen rfl 4
              clear hRT hwb hr1 hhd hst hbs hbd ho9 HW HO hbl2
              go_upto_region 23 with fail
              have hne : w.heap.size ≠ gw := by have := (HHc.out.lt w.heap.size rfl).2; have := HGW.out; omega
              have hlt9 := (HHc.out.lt w.heap.size rfl).2
              have hH9 := (HHd.out.set rfl 4 1 rfl : R1 5 .u8 (wr.setCell ⟨w.heap.size, 4, none⟩ (.int .u8 ((1 : Nat) : Int))) w.heap.size (.slice (some ⟨w.heap.size, 0, none⟩) 5 5) ((Sq.hd4 s.size ++ [0]).set 4 1))
              have hR9 := HR1.out.far (p := ⟨w.heap.size, 4, none⟩) (fun z hz => by have := (HR1.out.lt z hz).1; have := HGW.out; show z ≠ w.heap.size; omega) (.int .u8 ((1 : Nat) : Int))
              have hW9 := HWB.out.far (p := ⟨w.heap.size, 4, none⟩) (by show gw ≠ w.heap.size; omega) (.int .u8 ((1 : Nat) : Int))
              have hB9 := (HBc.out.trans (HA.out.mono (by have := HGW.out; omega))).setCell (p := ⟨w.heap.size, 4, none⟩) (Nat.le_refl _) (.int .u8 ((1 : Nat) : Int))
              have d0 := hW9.cell 0
              simp at d0
              have HH9 := Lib.hid (show R1 5 .u8 (wr.setCell ⟨w.heap.size, 4, none⟩ (.int .u8 1)) w.heap.size (.slice (some ⟨w.heap.size, 0, none⟩) 5 5) (Sq.hd4 s.size ++ [1]) from hH9)
              have HR9 := Lib.hid (show R1 5 .u8 (wr.setCell ⟨w.heap.size, 4, none⟩ (.int .u8 1)) (gw + 1) (.slice (some ⟨ga, 0, none⟩) bl cc) bs from hR9)
              have HB9 := Lib.hid (show Below w.heap.size w (wr.setCell ⟨w.heap.size, 4, none⟩ (.int .u8 1)) from hB9)
              have HBLL := Lib.hid (show (Sq.hd4 s.size ++ [1]).length + bs.length ≤ 1099511627776 by rw [← HBL2.out]; show 5 + bl ≤ _; omega)
              have HBYY := Lib.hid (show Sq.Byt (Sq.hd4 s.size ++ [1] ++ bs) from fun x hx => by
                rcases List.mem_append.1 hx with hx | hx
                · simp only [Sq.hd4, List.mem_append, List.mem_cons, List.not_mem_nil, or_false] at hx
                  omega
                · exact HBY2.out x hx)
              clear hH9 hR9 hW9 hB9 c0 c1
              go_wp2_with (at_builtin; refine wp_appLB rfl _ _ rfl w.heap.size _ (Sq.hd4 s.size ++ [1]) rfl HH9.out ga bl cc (gw + 1) bs rfl HR9.out HBLL.out HB9.out.size ?_; intro v7 w7 hr7 hb7; have HST := Lib.hid (str_r hr7 HBYY.out); have HB7 := Lib.hid (HB9.out.trans hb7); clear hr7 hb7)
              rw [HST.out]
              go_wp2
              go_ret
              exact ⟨by rw [HR.out, List.append_assoc]; rfl, HB7.out⟩
            · rw [if_neg (fun h => hsm h.2)] at hRT
              have HR := Lib.hid hRT
              have hsmz : ¬ (bl : Int) < s.size := by omega
              clear hRT hwb hr1 hhd hst hbs hbd ho9 HW HO hbl2
              have HHX := HHd
              have HBX := Lib.hid (HBc.out.trans (HA.out.mono (by have := HGW.out; have := (HHc.out.lt w.heap.size rfl).2; omega)))
              have HST := Lib.hid (str_r HHX.out HBY.out)
              have hsz5 : (Sq.toB (Sq.hd4 s.size ++ [0])).size = 5 := by rw [Sq.toB_size]; rfl
              have hsum : ¬ 9223372036854775807 < (Sq.toB (Sq.hd4 s.size ++ [0])).size + s.size := by rw [hsz5]; omega
              go_wp2_with fail
              rw [HST.out]
              go_wp2
              go_ret
              exact ⟨by rw [HR.out, Sq.toB_app]; rfl, HBX.out⟩
  · have hRT := HRT.out
    unfold Sq.packF at hRT
    rw [if_neg (fun h => hn h.1)] at hRT
    have HR := Lib.hid hRT
    have HHX := HH
    have HBX := HB
    clear hRT
    have HST := Lib.hid (str_r HHX.out HBY.out)
    have hsz5 : (Sq.toB (Sq.hd4 s.size ++ [0])).size = 5 := by rw [Sq.toB_size]; rfl
    have hsum : ¬ 9223372036854775807 < (Sq.toB (Sq.hd4 s.size ++ [0])).size + s.size := by rw [hsz5]; omega
    go_wp2_with fail
    rw [HST.out]
    go_wp2
    go_ret
    exact ⟨by rw [HR.out, Sq.toB_app]; rfl, HBX.out⟩
end Go.Proofs.YtcojoigbcfaajaaDoor
