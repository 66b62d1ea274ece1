/- value.Lift, where no argument is applied item by item; answers of any kind. -/
import Derived.Test.YtllhefjblipddaaGreatDoorHaa
import Derived.Test.YtllhefjblipddaaGreatDoorGan
import Derived.Test.YtllhefjblipddaaGreatDoorGao
import Derived.Test.YtllhefjblipddaaGreatDoorGac
import Derived.Test.YtllhefjblipddaaGreatDoorGah
import Derived.Test.YtllhefjblipddaaGreatDoorGam
import Derived.Test.YtllhefjblipddaaGreatDoorFmA
set_option linter.unusedSimpArgs false
set_option linter.unusedVariables false
namespace Go.Proofs.YtllhefjblipddaaGreatDoor
open Go.RowKit

set_option maxRecDepth 100000 in
set_option maxHeartbeats 8000000 in
theorem lift_g (W : World) (kinds : ByteArray) (A : Option Addr) (n c x : Nat) (avs : List Vl) (Φ : Vl → List Vl → Prop) (hΦ : ∀ h us, Φ h us → HdOk h us) (hA : Reads 9 csV W (.slice A n c) avs) (hn1 : 1 ≤ n) (hn2 : n ≤ 255) (hk0 : kinds.toList.isEmpty = false)
    (hTR : ∀ W', Calls Tryz.prog 72 #[.string kinds, .string ⟨#[115, 97]⟩] W' fun e w' => e = .returned (.string ⟨#[]⟩) ∧ Below W'.heap.size W' w')
    (hLT : ∀ i, i < n → ∃ l : Int, (∀ W', Calls Tryz.prog 73 #[.string kinds, .int .i64 (i : Int)] W' fun e w' => e = .returned (.int .u8 l) ∧ W' = w') ∧ (l = 115 → ¬ avs[i]!.k = 5))
    (hCK : ∀ i, i < n → ∀ W', Below W.heap.size W W' → Calls Tryz.prog 71 #[avs[i]!.v] W' fun e w' => e = .returned (.int .i64 0) ∧ Below W'.heap.size W' w')
    (hF : ∀ W1 A1 c1, Below W.heap.size W W1 → Reads 9 csV W1 (.slice A1 n c1) avs → Calls Tryz.prog 25 #[.slice A1 n c1, .pointer (some ⟨x, 0, none⟩)] W1 (ResG W W1 [] Φ))
    (hVD : ∀ (k : Int) (num den text : ByteArray) (on : Bool) (code rr rc : Int) (A2 : Option Addr) (n2 c2 : Nat) (us : List Vl) W', Below W.heap.size W W' → Φ ⟨k, num, den, text, on, code, rr, rc, none, 0, 0⟩ us → Reads 9 csV W' (.slice A2 n2 c2) us → Calls Tryz.prog 23 #[.agg #[.int .i64 k, .string num, .string den, .string text, .bool on, .int .i64 code, .int .i64 rr, .int .i64 rc, .slice A2 n2 c2]] W' fun e w' => e = .returned (.agg #[.int .i64 k, .string num, .string den, .string text, .bool on, .int .i64 code, .int .i64 rr, .int .i64 rc, .slice A2 n2 c2]) ∧ Below W'.heap.size W' w') :
    Calls Tryz.prog 24 #[.string kinds, .slice A n c, .func (.func 25) #[] #[.pointer (some ⟨x, 0, none⟩)]] W fun e w' => ∃ (k : Int) (num den text : ByteArray) (on : Bool) (code rr rc : Int) (A2 : Option Addr) (n2 c2 : Nat) (us : List Vl), e = .returned (.tuple #[.agg #[.int .i64 k, .string num, .string den, .string text, .bool on, .int .i64 code, .int .i64 rr, .int .i64 rc, .slice A2 n2 c2], .int .i64 0]) ∧ Φ ⟨k, num, den, text, on, code, rr, rc, none, 0, 0⟩ us ∧ Reads 9 csV w' (.slice A2 n2 c2) us ∧ (n2 = 0 → A2 = none ∧ c2 = 0) ∧ (∀ b o, A2 = some ⟨b, o, none⟩ → W.heap.size ≤ b) ∧ Below W.heap.size W w' := by
  obtain ⟨b, o, rfl⟩ : ∃ b o, A = some ⟨b, o, none⟩ := by
    obtain ⟨A', c', e, -, -, h3⟩ := hA
    injection e with e1 e2 e3
    obtain ⟨b, o, e4, -⟩ := h3 (by omega)
    exact ⟨b, o, e1.trans e4⟩
  have HA := Lib.hid hA
  have HTR := Lib.hid hTR
  have HLT := Lib.hid hLT
  have HCK := Lib.hid hCK
  have HF := Lib.hid hF
  have HVD := Lib.hid hVD
  have HOK := Lib.hid hΦ
  clear hA hTR hLT hCK hF hVD hΦ
  have HL0 := Lib.hid ((Loc.start W).alloc' rfl 27 #[.int .i64 0, .string ⟨#[]⟩, .string ⟨#[]⟩, .string ⟨#[]⟩, .bool false, .int .i64 0, .int .i64 0, .int .i64 0, .slice none 0 0])
  go_enter Tryz.func24, Tryz.ntmps24
  go_upto_region 3 with (go_at_call 72; (with_reducible refine (HTR.out _).mono ?_); rintro e w1 ⟨rfl, hb⟩; have HL1 := Lib.hid (HL0.out.step hb); clear hb HL0)
  go_upto_block 0 with fail
  go_cut [29] (fun u29 wz => Hid (Loc W [(W.heap.size, 27, #[.int .i64 0, .string ⟨#[]⟩, .string ⟨#[]⟩, .string ⟨#[]⟩, .bool false, .int .i64 0, .int .i64 0, .int .i64 0, .slice none 0 0])] wz))
  case first =>
    go_wp2_with fail
    go_loopw [29] (fun u29 wz => ∃ i : Nat, i ≤ n ∧ u29 = .int .i64 (i : Int) ∧ Hid (Loc W [(W.heap.size, 27, #[.int .i64 0, .string ⟨#[]⟩, .string ⟨#[]⟩, .string ⟨#[]⟩, .bool false, .int .i64 0, .int .i64 0, .int .i64 0, .slice none 0 0])] wz)) (fun u _ => n - (intOf u).toNat)
    case atStart => exact ⟨0, by omega, rfl, HL1⟩
    case round =>
      clear HL1
      obtain ⟨i, hi, rfl, HL⟩ := hrel
      by_cases hlt : i < n
      · have hlz : (i : Int) < (n : Int) := by omega
        have i0 : 0 ≤ (i : Int) := by omega
        have i1 : IntKind.i64.wrap ((i : Int) + 1) = (i : Int) + 1 := IntWalk.i64_in _ (by omega)
        obtain ⟨uk, unum, uden, utext, uon, ucode, urows, ucols, uA, un, uc, hus', hcs⟩ := read_at HA.out hlt
        obtain ⟨e0, e1, e2, e3, e4, e5, e6, e7, e8⟩ := hcs wr HL.out.bel
        have HCi := Lib.hid (HCK.out i hlt _ (HL.out.step (below_al wr (.cells #[.int .i64 uk, .string unum, .string uden, .string utext, .bool uon, .int .i64 ucode, .int .i64 urows, .int .i64 ucols, .slice uA un uc] 27))).bel)
        rw [hus'] at HCi
        have HCi := Lib.hid (show Calls Tryz.prog 71 #[.agg #[.int .i64 uk, .string unum, .string uden, .string utext, .bool uon, .int .i64 ucode, .int .i64 urows, .int .i64 ucols, .slice uA un uc]] (wr.alloc (.cells #[.int .i64 uk, .string unum, .string uden, .string utext, .bool uon, .int .i64 ucode, .int .i64 urows, .int .i64 ucols, .slice uA un uc] 27)) fun e w' => e = .returned (.int .i64 0) ∧ Below (wr.alloc (.cells #[.int .i64 uk, .string unum, .string uden, .string utext, .bool uon, .int .i64 ucode, .int .i64 urows, .int .i64 ucols, .slice uA un uc] 27)).heap.size (wr.alloc (.cells #[.int .i64 uk, .string unum, .string uden, .string utext, .bool uon, .int .i64 ucode, .int .i64 urows, .int .i64 ucols, .slice uA un uc] 27)) w' from HCi.out)
        clear hcs hus'
        go_wp2_with (go_at_call 71; (with_reducible refine HCi.out.mono ?_); rintro e w2 ⟨rfl, hb⟩; have HL2 := Lib.hid ((HL.out.step (below_al wr (.cells #[.int .i64 uk, .string unum, .string uden, .string utext, .bool uon, .int .i64 ucode, .int .i64 urows, .int .i64 ucols, .slice uA un uc] 27))).step hb); clear hb HL e0 e1 e2 e3 e4 e5 e6 e7 e8)
        go_roundw
        case rel => exact ⟨i + 1, by omega, by go_num, HL2⟩
        case measure => simp [intOf]; omega
      · obtain rfl : i = n := by omega
        go_wp2_with fail
        go_meet
        exact HL
  case rest =>
    clear HL1
    have HL1 := hcut
    go_upto_block 2 with fail
    go_cut [11, 12, 42] (fun u11 u12 u42 wz => u11 = .int .i64 0 ∧ u12 = .int .i64 0 ∧ Hid (Loc W [(W.heap.size, 27, #[.int .i64 0, .string ⟨#[]⟩, .string ⟨#[]⟩, .string ⟨#[]⟩, .bool false, .int .i64 0, .int .i64 0, .int .i64 0, .slice none 0 0])] wz))
    case first =>
      go_wp2_with fail
      go_loopw [11, 12, 42] (fun u11 u12 u42 wz => ∃ i : Nat, i ≤ n ∧ u11 = .int .i64 0 ∧ u12 = .int .i64 0 ∧ u42 = .int .i64 (i : Int) ∧ Hid (Loc W [(W.heap.size, 27, #[.int .i64 0, .string ⟨#[]⟩, .string ⟨#[]⟩, .string ⟨#[]⟩, .bool false, .int .i64 0, .int .i64 0, .int .i64 0, .slice none 0 0])] wz)) (fun _ _ u _ => n - (intOf u).toNat)
      case atStart => exact ⟨0, by omega, rfl, rfl, rfl, HL1⟩
      case round =>
        clear HL1
        obtain ⟨i, hi, rfl, rfl, rfl, HL⟩ := hrel
        by_cases hlt : i < n
        · have hlz : (i : Int) < (n : Int) := by omega
          have i0 : 0 ≤ (i : Int) := by omega
          have i1 : IntKind.i64.wrap ((i : Int) + 1) = (i : Int) + 1 := IntWalk.i64_in _ (by omega)
          obtain ⟨uk, unum, uden, utext, uon, ucode, urows, ucols, uA, un, uc, hus', hcs⟩ := read_at HA.out hlt
          obtain ⟨e0, e1, e2, e3, e4, e5, e6, e7, e8⟩ := hcs wr HL.out.bel
          obtain ⟨l, hl1, hl2⟩ := HLT.out i hlt
          rw [hus'] at hl2
          have hl2 : l = 115 → ¬ uk = 5 := hl2
          have HLE := Lib.hid hl1
          have HL2 := Lib.hid (HL.out.step (below_al wr (.cells #[.int .i64 uk, .string unum, .string uden, .string utext, .bool uon, .int .i64 ucode, .int .i64 urows, .int .i64 ucols, .slice uA un uc] 27)))
          clear hcs hus' hl1
          by_cases hl : l = 115
          · have hk := hl2 hl
            subst hl
            clear hl2
            go_wp2_with (go_at_call 73; (with_reducible refine (HLE.out _).mono ?_); rintro e w2 ⟨rfl, rfl⟩)
            go_roundw
            case rel => exact ⟨i + 1, by omega, rfl, rfl, by go_num, HL2⟩
            case measure => simp [intOf]; omega
          · clear hl2
            go_wp2_with (go_at_call 73; (with_reducible refine (HLE.out _).mono ?_); rintro e w2 ⟨rfl, rfl⟩)
            go_roundw
            case rel => exact ⟨i + 1, by omega, rfl, rfl, by go_num, HL2⟩
            case measure => simp [intOf]; omega
        · obtain rfl : i = n := by omega
          go_wp2_with fail
          go_meet
          exact ⟨rfl, rfl, HL⟩
    case rest =>
      clear HL1
      obtain ⟨rfl, rfl, HL2⟩ := hcut
      go_upto_region 18 with fail
      have HAC := Lib.hid (HA.out.below HL2.out.bel)
      have hal : avs.length = n := (HA.out.lt (by omega)).1
      have HAL := Lib.hid hal
      rw [← hal] at HAC
      clear hal
      go_upto_region 19 with (first
        | (go_at_call 25; (with_reducible refine (HF.out _ _ _ HL3.out.bel HRD1.out).mono ?_); rintro e w2 ⟨k, num, den, text, on, code, rr, rc, A2, n2, c2, us, rfl, hP, hr, hf, hb⟩; have HP := Lib.hid hP; have HRD2 := Lib.hid hr; have hb := hb.below (Nat.le_refl _) (fun x hx => by cases hx); have HL4 := Lib.hid (HL3.out.step hb); clear hP hr hf hb HL3 HRD1)
        | (go_at_call 23; (with_reducible refine (HVD.out _ _ _ _ _ _ _ _ _ _ _ _ _ HL4.out.bel HP.out HRD2.out).mono ?_); rintro e w3 ⟨rfl, hb⟩; have HRD3 := Lib.hid (HRD2.out.below hb); have HL5 := Lib.hid (HL4.out.step hb); clear hb HL4 HRD2)
        | (at_builtin; refine wp_rowN 25 27 9 112 csV _ Tryz.underlying25 val_info rfl (by decide) csV_one rfl (.const (.slice none 0 0)) (.tmp 68) rfl wc.heap.size _ [] rfl (RowOf.nil _ _) avs b o c (by rw [HAL.out]; rfl) HAC.out (by rw [HAL.out]; omega) ?_ ?_ ?_ ?_; (rw [HAL.out]; simp; omega); (rw [HAL.out]; unfold maxLen; simp; omega); (exact Nat.le_refl _); intro v1 w1 ho1 hb1 hg1; have HL3 := Lib.hid (HL2.out.step hb1); have ho2 := RowOf.reads ho1 csV_len; rw [List.nil_append] at ho1 ho2; obtain ⟨g1, c1, hv1, -, -⟩ := ho1.form (by rw [HAL.out]; omega); subst hv1; rw [HAL.out] at ho2 ⊢; have HRD1 := Lib.hid ho2; clear ho1 ho2 hb1 hg1 HL2))
      have hul : us.length = n2 := by
        obtain ⟨A', c', e, -⟩ := HRD3.out
        injection e with e1 e2 e3
        exact e2.symm
      have hbig : n2 ≤ 100000 := by
        rcases HOK.out _ _ HP.out with ⟨-, h0⟩ | ⟨-, -, -, -, -, h0⟩
        · rw [h0] at hul
          have hul : 0 = n2 := hul
          omega
        · omega
      have HUL := Lib.hid hul
      clear hul
      have HRD4 := Lib.hid (HRD3.out.below (below_al w3 (.cells #[.int .i64 k, .string num, .string den, .string text, .bool on, .int .i64 code, .int .i64 rr, .int .i64 rc, .slice A2 n2 c2] 27)))
      obtain ⟨X, hX⟩ : ∃ X, X = w3.heap.size := ⟨_, rfl⟩
      have HL6 := Lib.hid (HL5.out.alloc' hX.symm 27 #[.int .i64 k, .string num, .string den, .string text, .bool on, .int .i64 code, .int .i64 rr, .int .i64 rc, .slice A2 n2 c2])
      have hXW : X ≠ W.heap.size := by
        have := HL5.out.lt (g := W.heap.size) (t := 27) (List.mem_cons_self ..)
        omega
      clear HRD3 HL5
      rw [← hX]
      revert HL6 HRD4
      generalize w3.alloc (.cells #[.int .i64 k, .string num, .string den, .string text, .bool on, .int .i64 code, .int .i64 rr, .int .i64 rc, .slice A2 n2 c2] 27) = W4
      intro HRD4 HL6
      clear hX
      have x8 : W4.cell? ⟨X, 8, none⟩ = some (.slice A2 n2 c2) := (HL6.out.blk (g := X) (t := 27) (List.mem_cons_self ..)).cell 8
      have hXlt := HL6.out.lt (g := X) (t := 27) (List.mem_cons_self ..)
      rcases Nat.eq_zero_or_pos n2 with hz | hp
      · subst hz
        have y8 := x8
        have f8 := (HL6.out.blk (g := X) (t := 27) (List.mem_cons_self ..)).frozen 8
        have hu0 : us = [] := List.length_eq_zero_iff.1 HUL.out
        subst hu0
        go_upto_region 20 with (at_builtin; refine wp_app0 rfl (.const (.slice none 0 0)) (.tmp 73) rfl rfl none A2 0 0 c2 rfl rfl (Nat.le_refl _) ?_)
        clear y8 f8 x8
        have HL8 := Lib.hid (HL6.out.set1 (i := 8) (fun y hy => by
          simp only [List.mem_cons, List.not_mem_nil, or_false] at hy
          subst hy
          exact fun e => hXW e.symm) (.slice none 0 0))
        clear HL6 HRD4
        revert HL8
        generalize W4.setCell ⟨X, 8, none⟩ (.slice none 0 0) = W6
        intro HL8
        obtain ⟨k0, k1, k2, k3, k4, k5, k6, k7, k8⟩ := (HL8.out.blk (g := X) (t := 27) (List.mem_cons_self ..)).nine
        have HBW := Lib.hid (HL8.out.blk (g := W.heap.size) (t := 27) (cs := #[.int .i64 0, .string ⟨#[]⟩, .string ⟨#[]⟩, .string ⟨#[]⟩, .bool false, .int .i64 0, .int .i64 0, .int .i64 0, .slice none 0 0]) (List.mem_cons_of_mem _ (List.mem_cons_self ..)))
        obtain ⟨f0, f1, f2, f3, f4, f5, f6, f7, f8⟩ := HBW.out.ninef
        obtain ⟨z0, z1, z2, z3, z4, z5, z6, z7, z8⟩ := HBW.out.nine
        go_upto_region 99 with fail
        clear f0 f1 f2 f3 f4 f5 f6 f7 f8 z0 z1 z2 z3 z4 z5 z6 z7 z8 k0 k1 k2 k3 k4 k5 k6 k7 k8
        obtain ⟨q0, q1, q2, q3, q4, q5, q6, q7, q8⟩ := (HBW.out.nine_set (.int .i64 k) (.string num) (.string den) (.string text) (.bool on) (.int .i64 code) (.int .i64 rr) (.int .i64 rc) (.slice none 0 0)).1.nine
        have hcn := chg_nine W6 W.heap.size (.int .i64 k) (.string num) (.string den) (.string text) (.bool on) (.int .i64 code) (.int .i64 rr) (.int .i64 rc) (.slice none 0 0)
        exact bodyPost_ret (v := .tuple #[.agg #[.int .i64 k, .string num, .string den, .string text, .bool on, .int .i64 code, .int .i64 rr, .int .i64 rc, .slice none 0 0], .int .i64 0]) (by simp [results, Tryz.results24, go_sem, q0, q1, q2, q3, q4, q5, q6, q7, q8]) rfl ⟨k, num, den, text, on, code, rr, rc, none, 0, 0, [], rfl, HP.out, reads_nil _, (fun _ => ⟨rfl, rfl⟩), (fun b o e => by cases e), HL8.out.bel.trans (hcn.below HL8.out.bel.size fun y hy => by rw [List.mem_singleton.1 hy]; exact Nat.le_refl _)⟩
      · obtain ⟨b2, o2, rfl⟩ : ∃ b o, A2 = some ⟨b, o, none⟩ := by
          obtain ⟨A', c', e, -, -, h3⟩ := HRD4.out
          injection e with e1 e2 e3
          obtain ⟨b, o, e4, -⟩ := h3 (by have := HUL.out; omega)
          exact ⟨b, o, e1.trans e4⟩
        rw [← HUL.out] at HRD4
        go_upto_region 20 with (at_builtin; refine wp_rowN 25 27 9 112 csV _ Tryz.underlying25 val_info rfl (by decide) csV_one rfl (.const (.slice none 0 0)) (.tmp 73) rfl W4.heap.size _ [] rfl (RowOf.nil _ _) us b2 o2 c2 (by rw [HUL.out]; rfl) HRD4.out (by rw [HUL.out]; omega) ?_ ?_ ?_ ?_; (rw [HUL.out]; simp; omega); (rw [HUL.out]; unfold maxLen; simp; omega); (exact Nat.le_refl _); intro v1 w5 ho1 hb1 hg1; have HL7 := Lib.hid (HL6.out.step hb1); rw [List.nil_append] at ho1; obtain ⟨g2, c3, hv1, hg2, -⟩ := ho1.form (by rw [HUL.out]; omega); subst hv1; rw [HUL.out] at ho1 ⊢; have HO1 := Lib.hid ho1; have y8 : w5.cell? ⟨X, 8, none⟩ = some (.slice (some ⟨b2, o2, none⟩) n2 c2) := (HL7.out.blk (g := X) (t := 27) (List.mem_cons_self ..)).cell 8; have f8 := (HL7.out.blk (g := X) (t := 27) (List.mem_cons_self ..)).frozen 8; clear ho1 hb1 hg1 x8)
        clear y8 f8
        have HL8 := Lib.hid (HL7.out.set1 (i := 8) (fun y hy => by
          simp only [List.mem_cons, List.not_mem_nil, or_false] at hy
          subst hy
          exact fun e => hXW e.symm) (.slice (some ⟨g2, 0, none⟩) n2 c3))
        have HO2 := Lib.hid (RowOf.reads (HO1.out.far (p := ⟨X, 8, none⟩) (fun g' e => by
          injection e with e
          have e : g2 = g' := e
          show g' ≠ X
          omega) (.slice (some ⟨g2, 0, none⟩) n2 c3)) csV_len)
        have hgW : g2 ≠ W.heap.size := by
          have := HL6.out.lt (g := W.heap.size) (t := 27) (List.mem_cons_of_mem _ (List.mem_cons_self ..))
          omega
        have HG := Lib.hid hgW
        have HGW := Lib.hid (show W.heap.size ≤ g2 from by have := HL6.out.bel.size; omega)
        clear HL7 HO1 HL6 hgW
        revert HL8 HO2
        generalize w5.setCell ⟨X, 8, none⟩ (.slice (some ⟨g2, 0, none⟩) n2 c3) = W6
        intro HL8 HO2
        obtain ⟨k0, k1, k2, k3, k4, k5, k6, k7, k8⟩ := (HL8.out.blk (g := X) (t := 27) (List.mem_cons_self ..)).nine
        have HBW := Lib.hid (HL8.out.blk (g := W.heap.size) (t := 27) (cs := #[.int .i64 0, .string ⟨#[]⟩, .string ⟨#[]⟩, .string ⟨#[]⟩, .bool false, .int .i64 0, .int .i64 0, .int .i64 0, .slice none 0 0]) (List.mem_cons_of_mem _ (List.mem_cons_self ..)))
        obtain ⟨f0, f1, f2, f3, f4, f5, f6, f7, f8⟩ := HBW.out.ninef
        obtain ⟨z0, z1, z2, z3, z4, z5, z6, z7, z8⟩ := HBW.out.nine
        go_upto_region 99 with fail
        clear f0 f1 f2 f3 f4 f5 f6 f7 f8 z0 z1 z2 z3 z4 z5 z6 z7 z8 k0 k1 k2 k3 k4 k5 k6 k7 k8
        obtain ⟨q0, q1, q2, q3, q4, q5, q6, q7, q8⟩ := (HBW.out.nine_set (.int .i64 k) (.string num) (.string den) (.string text) (.bool on) (.int .i64 code) (.int .i64 rr) (.int .i64 rc) (.slice (some ⟨g2, 0, none⟩) n2 c3)).1.nine
        have hcn := chg_nine W6 W.heap.size (.int .i64 k) (.string num) (.string den) (.string text) (.bool on) (.int .i64 code) (.int .i64 rr) (.int .i64 rc) (.slice (some ⟨g2, 0, none⟩) n2 c3)
        have hgl := (HO2.out.lt (by have := HUL.out; omega)).2.1
        exact bodyPost_ret (v := .tuple #[.agg #[.int .i64 k, .string num, .string den, .string text, .bool on, .int .i64 code, .int .i64 rr, .int .i64 rc, .slice (some ⟨g2, 0, none⟩) n2 c3], .int .i64 0]) (by simp [results, Tryz.results24, go_sem, q0, q1, q2, q3, q4, q5, q6, q7, q8]) rfl ⟨k, num, den, text, on, code, rr, rc, some ⟨g2, 0, none⟩, n2, c3, us, rfl, HP.out, reads_same HO2.out hcn.size (hcn.block g2 hgl (by rw [List.mem_singleton]; exact HG.out)), (fun h => absurd h (by omega)), (fun b o e => by injection e with e; injection e with e; have := HGW.out; omega), HL8.out.bel.trans (hcn.below HL8.out.bel.size fun y hy => by rw [List.mem_singleton.1 hy]; exact Nat.le_refl _)⟩
end Go.Proofs.YtllhefjblipddaaGreatDoor

namespace Go.Proofs.YtllhefjblipddaaGreatDoor
open Go.RowKit

/-- A value and no error. -/
def LRes (W : World) (Φ : Vl → List Vl → Prop) (e : Ending) (w' : World) : Prop := ∃ (k : Int) (num den text : ByteArray) (on : Bool) (code rr rc : Int) (A2 : Option Addr) (n2 c2 : Nat) (us : List Vl), e = .returned (.tuple #[.agg #[.int .i64 k, .string num, .string den, .string text, .bool on, .int .i64 code, .int .i64 rr, .int .i64 rc, .slice A2 n2 c2], .int .i64 0]) ∧ Φ ⟨k, num, den, text, on, code, rr, rc, none, 0, 0⟩ us ∧ Reads 9 csV w' (.slice A2 n2 c2) us ∧ (n2 = 0 → A2 = none ∧ c2 = 0) ∧ (∀ b o, A2 = some ⟨b, o, none⟩ → W.heap.size ≤ b) ∧ Below W.heap.size W w'
/-- A value. -/
def VRes (W : World) (Φ : Vl → List Vl → Prop) (e : Ending) (w' : World) : Prop := ∃ (k : Int) (num den text : ByteArray) (on : Bool) (code rr rc : Int) (A2 : Option Addr) (n2 c2 : Nat) (us : List Vl), e = .returned (.agg #[.int .i64 k, .string num, .string den, .string text, .bool on, .int .i64 code, .int .i64 rr, .int .i64 rc, .slice A2 n2 c2]) ∧ Φ ⟨k, num, den, text, on, code, rr, rc, none, 0, 0⟩ us ∧ Reads 9 csV w' (.slice A2 n2 c2) us ∧ (n2 = 0 → A2 = none ∧ c2 = 0) ∧ (∀ b o, A2 = some ⟨b, o, none⟩ → W.heap.size ≤ b) ∧ Below W.heap.size W w'
set_option maxRecDepth 100000 in
set_option maxHeartbeats 8000000 in
theorem run_g (w0 W : World) (b : Nat) (name : ByteArray) (y : EY) (hTS : TS w0 W b tabL) (hf : (tabL.find? fun y => sameT y.1 name) = some y) (A : Option Addr) (n c : Nat) (Φ : Vl → List Vl → Prop) (h1 : y.2.1 ≤ (n : Int)) (h2 : (n : Int) ≤ y.2.2.1)
    (hLI : ∀ W' x p, Below W.heap.size W W' → Blk W' x 60 #[.int .i64 y.2.1, .int .i64 y.2.2.1, .string y.2.2.2.1, .func (.func 75) #[] #[.pointer (some ⟨p, 0, none⟩)]] → Blk W' p 65 #[.func (.func y.2.2.2.2) #[] #[]] → Calls Tryz.prog 24 #[.string y.2.2.2.1, .slice A n c, .func (.func 25) #[] #[.pointer (some ⟨x, 0, none⟩)]] W' (LRes W' Φ)) :
    Calls Tryz.prog 16 #[.map (some b), .string name, .slice A n c] W (LRes W Φ) := by
  obtain ⟨p, hlk, hp⟩ := hTS.look name y hf
  obtain ⟨p', hlk', -⟩ := (hTS.step (below_al W (.cells #[.int .i64 0, .string ⟨#[]⟩, .string ⟨#[]⟩, .string ⟨#[]⟩, .bool false, .int .i64 0, .int .i64 0, .int .i64 0, .slice none 0 0] 27))).look name y hf
  obtain rfl : p = p' := by
    obtain ⟨LV, g1, g2⟩ := hTS.ex
    obtain ⟨p2, g3, g4⟩ := ents_some name y LV tabL g2 hf
    have e1 := g1.look Tryz.underlying43 Tryz.underlying9 name _ g3
    have e2 := (g1.later (below_al W (.cells #[.int .i64 0, .string ⟨#[]⟩, .string ⟨#[]⟩, .string ⟨#[]⟩, .bool false, .int .i64 0, .int .i64 0, .int .i64 0, .slice none 0 0] 27))).look Tryz.underlying43 Tryz.underlying9 name _ g3
    rw [hlk] at e1
    rw [hlk'] at e2
    simp only [Result.ok.injEq, Value.tuple.injEq, Array.mk.injEq, List.cons.injEq, Value.agg.injEq, Value.func.injEq, Value.pointer.injEq, Option.some.injEq, Addr.mk.injEq, and_true, true_and] at e1 e2
    omega
  have HL0 := Lib.hid (((Loc.start W).alloc' rfl 27 #[.int .i64 0, .string ⟨#[]⟩, .string ⟨#[]⟩, .string ⟨#[]⟩, .bool false, .int .i64 0, .int .i64 0, .int .i64 0, .slice none 0 0]).alloc' (g := W.heap.size + 1) (by simp) 60 #[.int .i64 y.2.1, .int .i64 y.2.2.1, .string y.2.2.2.1, .func (.func 75) #[] #[.pointer (some ⟨p, 0, none⟩)]])
  have HLI0 := Lib.hid (hLI _ (W.heap.size + 1) p HL0.out.bel (HL0.out.blk (g := W.heap.size + 1) (t := 60) (List.mem_cons_self ..)) ((hp.alloc (.cells #[.int .i64 0, .string ⟨#[]⟩, .string ⟨#[]⟩, .string ⟨#[]⟩, .bool false, .int .i64 0, .int .i64 0, .int .i64 0, .slice none 0 0] 27)).alloc (.cells #[.int .i64 y.2.1, .int .i64 y.2.2.1, .string y.2.2.2.1, .func (.func 75) #[] #[.pointer (some ⟨p, 0, none⟩)]] 60)))
  clear hlk hp hLI hTS hf
  obtain ⟨yk, lo, hi, ks, fn⟩ := y
  dsimp only at h1 h2 hlk' HLI0 HL0
  have h1 : ¬ (n : Int) < lo := by omega
  have h2 : ¬ hi < (n : Int) := by omega
  go_enter Tryz.func16, Tryz.ntmps16
  have hmf : ∀ (fn : Fn) (first cap : Array Value) (w : World), (Instr.makeFunc fn first cap).run Tryz.prog w = .ok (.func fn first cap) w := fun _ _ _ _ => rfl
  go_upto_region 99 with (go_at_call 24; (with_reducible refine HLI0.out.mono ?_); rintro e w3 ⟨k, num, den, text, on, code, rr, rc, A2, n2, c2, us, rfl, hP, hr, hz0, hfr, hb⟩; have HP := Lib.hid hP; have HZ0 := Lib.hid hz0; clear hz0; have HRS := Lib.hid hr; have HL1 := Lib.hid (HL0.out.step hb); have HSA := Lib.hid hfr; clear hfr; have HBW := Lib.hid (HL1.out.blk (g := W.heap.size) (t := 27) (cs := #[.int .i64 0, .string ⟨#[]⟩, .string ⟨#[]⟩, .string ⟨#[]⟩, .bool false, .int .i64 0, .int .i64 0, .int .i64 0, .slice none 0 0]) (List.mem_cons_of_mem _ (List.mem_cons_self ..))); obtain ⟨f0, f1, f2, f3, f4, f5, f6, f7, f8⟩ := HBW.out.ninef; obtain ⟨z0, z1, z2, z3, z4, z5, z6, z7, z8⟩ := HBW.out.nine; clear hP hr hb HL0)
  clear f0 f1 f2 f3 f4 f5 f6 f7 f8 z0 z1 z2 z3 z4 z5 z6 z7 z8
  obtain ⟨q0, q1, q2, q3, q4, q5, q6, q7, q8⟩ := (HBW.out.nine_set (.int .i64 k) (.string num) (.string den) (.string text) (.bool on) (.int .i64 code) (.int .i64 rr) (.int .i64 rc) (.slice A2 n2 c2)).1.nine
  have hcn := chg_nine w3 W.heap.size (.int .i64 k) (.string num) (.string den) (.string text) (.bool on) (.int .i64 code) (.int .i64 rr) (.int .i64 rc) (.slice A2 n2 c2)
  have hfr := HSA.out
  have hsz : ((W.alloc (.cells #[.int .i64 0, .string ⟨#[]⟩, .string ⟨#[]⟩, .string ⟨#[]⟩, .bool false, .int .i64 0, .int .i64 0, .int .i64 0, .slice none 0 0] 27)).alloc (.cells #[.int .i64 lo, .int .i64 hi, .string ks, .func (.func 75) #[] #[.pointer (some ⟨p, 0, none⟩)]] 60)).heap.size = W.heap.size + 2 := by simp
  rw [hsz] at hfr
  refine bodyPost_ret (v := .tuple #[.agg #[.int .i64 k, .string num, .string den, .string text, .bool on, .int .i64 code, .int .i64 rr, .int .i64 rc, .slice A2 n2 c2], .int .i64 0]) (by simp [results, Tryz.results16, go_sem, q0, q1, q2, q3, q4, q5, q6, q7, q8]) rfl ⟨k, num, den, text, on, code, rr, rc, A2, n2, c2, us, rfl, HP.out, reads_same2 HRS.out hcn.size (fun b o e hb => hcn.block b hb (by
    have := hfr b o e
    rw [List.mem_singleton]
    omega)), HZ0.out, fun b o e => by have := hfr b o e; omega, HL1.out.bel.trans (hcn.below HL1.out.bel.size fun x hx => by rw [List.mem_singleton.1 hx]; exact Nat.le_refl _)⟩
set_option maxRecDepth 100000 in
set_option maxHeartbeats 8000000 in
theorem call_g (W : World) (name : ByteArray) (y : EY) (hf : (tabL.find? fun y => sameT y.1 name) = some y) (A : Option Addr) (n c : Nat) (Φ : Vl → List Vl → Prop) (h1 : y.2.1 ≤ (n : Int)) (h2 : (n : Int) ≤ y.2.2.1)
    (hLI : ∀ W' x p, Below W.heap.size W W' → Blk W' x 60 #[.int .i64 y.2.1, .int .i64 y.2.2.1, .string y.2.2.2.1, .func (.func 75) #[] #[.pointer (some ⟨p, 0, none⟩)]] → Blk W' p 65 #[.func (.func y.2.2.2.2) #[] #[]] → Calls Tryz.prog 24 #[.string y.2.2.2.1, .slice A n c, .func (.func 25) #[] #[.pointer (some ⟨x, 0, none⟩)]] W' (LRes W' Φ)) :
    Calls Tryz.prog 11 #[.string name, .slice A n c] W (LRes W Φ) := by
  have HL0 := Lib.hid ((Loc.start W).alloc' rfl 27 #[.int .i64 0, .string ⟨#[]⟩, .string ⟨#[]⟩, .string ⟨#[]⟩, .bool false, .int .i64 0, .int .i64 0, .int .i64 0, .slice none 0 0])
  have HRU := Lib.hid fun w0 W1 b (hb : Below W.heap.size W W1) (hTS : TS w0 W1 b tabL) => run_g w0 W1 b name y hTS hf A n c Φ h1 h2 (fun W' x p hW => hLI W' x p (hb.trans (hW.mono hb.size)))
  clear hLI hf h1 h2
  go_enter Tryz.func11, Tryz.ntmps11
  go_upto_region 99 with (first
    | (go_at_call 17; (with_reducible refine (table_any _).mono ?_); rintro e w2 ⟨b, rfl, hts⟩; have HL1 := Lib.hid (HL0.out.step hts.bel); have HTS := Lib.hid hts; clear hts HL0)
    | (go_at_call 16; (with_reducible refine (HRU.out _ _ _ HL1.out.bel HTS.out).mono ?_); rintro e w3 ⟨k, num, den, text, on, code, rr, rc, A2, n2, c2, us, rfl, hP, hr, hz0, hfr, hb⟩; have HP := Lib.hid hP; have HZ0 := Lib.hid hz0; clear hz0; have HRS := Lib.hid hr; have HLT := Lib.hid (HL1.out.lt (g := W.heap.size) (t := 27) (List.mem_cons_self ..)); have HL2 := Lib.hid (HL1.out.step hb); have HSA := Lib.hid hfr; have HBW := Lib.hid (HL2.out.blk (g := W.heap.size) (t := 27) (cs := #[.int .i64 0, .string ⟨#[]⟩, .string ⟨#[]⟩, .string ⟨#[]⟩, .bool false, .int .i64 0, .int .i64 0, .int .i64 0, .slice none 0 0]) (List.mem_cons_self ..)); obtain ⟨f0, f1, f2, f3, f4, f5, f6, f7, f8⟩ := HBW.out.ninef; obtain ⟨z0, z1, z2, z3, z4, z5, z6, z7, z8⟩ := HBW.out.nine; clear hP hr hb HL1 hfr))
  clear f0 f1 f2 f3 f4 f5 f6 f7 f8 z0 z1 z2 z3 z4 z5 z6 z7 z8
  obtain ⟨q0, q1, q2, q3, q4, q5, q6, q7, q8⟩ := (HBW.out.nine_set (.int .i64 k) (.string num) (.string den) (.string text) (.bool on) (.int .i64 code) (.int .i64 rr) (.int .i64 rc) (.slice A2 n2 c2)).1.nine
  have hcn := chg_nine w3 W.heap.size (.int .i64 k) (.string num) (.string den) (.string text) (.bool on) (.int .i64 code) (.int .i64 rr) (.int .i64 rc) (.slice A2 n2 c2)
  have hfr := HSA.out
  have hlt := HLT.out
  refine bodyPost_ret (v := .tuple #[.agg #[.int .i64 k, .string num, .string den, .string text, .bool on, .int .i64 code, .int .i64 rr, .int .i64 rc, .slice A2 n2 c2], .int .i64 0]) (by simp [results, Tryz.results11, go_sem, q0, q1, q2, q3, q4, q5, q6, q7, q8]) rfl ⟨k, num, den, text, on, code, rr, rc, A2, n2, c2, us, rfl, HP.out, reads_same2 HRS.out hcn.size (fun b o e hb => hcn.block b hb (by
    have := hfr b o e
    rw [List.mem_singleton]
    omega)), HZ0.out, fun b o e => by have := hfr b o e; omega, HL2.out.bel.trans (hcn.below HL2.out.bel.size fun x hx => by rw [List.mem_singleton.1 hx]; exact Nat.le_refl _)⟩
set_option maxRecDepth 100000 in
set_option maxHeartbeats 8000000 in
theorem look_gg (W : World) (name : ByteArray) (y : EY) (hf : (tabL.find? fun y => sameT y.1 name) = some y) (A : Option Addr) (n c : Nat) (Φ : Vl → List Vl → Prop) (h1 : y.2.1 ≤ (n : Int)) (h2 : (n : Int) ≤ y.2.2.1)
    (hLI : ∀ W' x p, Below W.heap.size W W' → Blk W' x 60 #[.int .i64 y.2.1, .int .i64 y.2.2.1, .string y.2.2.2.1, .func (.func 75) #[] #[.pointer (some ⟨p, 0, none⟩)]] → Blk W' p 65 #[.func (.func y.2.2.2.2) #[] #[]] → Calls Tryz.prog 24 #[.string y.2.2.2.1, .slice A n c, .func (.func 25) #[] #[.pointer (some ⟨x, 0, none⟩)]] W' (LRes W' Φ)) :
    Calls Tryz.prog 7 #[.string name, .slice A n c] W (VRes W Φ) := by
  have HL0 := Lib.hid ((Loc.start W).alloc' rfl 27 #[.int .i64 0, .string ⟨#[]⟩, .string ⟨#[]⟩, .string ⟨#[]⟩, .bool false, .int .i64 0, .int .i64 0, .int .i64 0, .slice none 0 0])
  have HCA := Lib.hid (call_g (W.alloc (.cells #[.int .i64 0, .string ⟨#[]⟩, .string ⟨#[]⟩, .string ⟨#[]⟩, .bool false, .int .i64 0, .int .i64 0, .int .i64 0, .slice none 0 0] 27)) name y hf A n c Φ h1 h2 (fun W' x p hW => hLI W' x p (HL0.out.step hW).bel))
  clear hLI hf h1 h2
  go_enter Tryz.func7, Tryz.ntmps7
  go_upto_region 2 with (go_at_call 11; (with_reducible refine HCA.out.mono ?_); rintro e w3 ⟨k, num, den, text, on, code, rr, rc, A2, n2, c2, us, rfl, hP, hr, hz0, hfr, hb⟩; have HP := Lib.hid hP; have HZ0 := Lib.hid hz0; clear hz0; have HRS := Lib.hid hr; have HL2 := Lib.hid (HL0.out.step hb); have HSA := Lib.hid hfr; clear hP hr hb HL0 hfr)
  have HRS4 := Lib.hid (HRS.out.below (below_al w3 (.cells #[.int .i64 k, .string num, .string den, .string text, .bool on, .int .i64 code, .int .i64 rr, .int .i64 rc, .slice A2 n2 c2] 27)))
  obtain ⟨X, hX⟩ : ∃ X, X = w3.heap.size := ⟨_, rfl⟩
  have HL3 := Lib.hid (HL2.out.alloc' hX.symm 27 #[.int .i64 k, .string num, .string den, .string text, .bool on, .int .i64 code, .int .i64 rr, .int .i64 rc, .slice A2 n2 c2])
  have hsz : (W.alloc (.cells #[.int .i64 0, .string ⟨#[]⟩, .string ⟨#[]⟩, .string ⟨#[]⟩, .bool false, .int .i64 0, .int .i64 0, .int .i64 0, .slice none 0 0] 27)).heap.size = W.heap.size + 1 := by simp
  have hfr := HSA.out
  rw [hsz] at hfr
  have HFR := Lib.hid hfr
  clear HRS HL2 hsz HSA hfr HCA
  rw [← hX]
  revert HRS4 HL3
  generalize w3.alloc (.cells #[.int .i64 k, .string num, .string den, .string text, .bool on, .int .i64 code, .int .i64 rr, .int .i64 rc, .slice A2 n2 c2] 27) = w4
  intro HRS4 HL3
  clear hX
  obtain ⟨k0, k1, k2, k3, k4, k5, k6, k7, k8⟩ := (HL3.out.blk (g := X) (t := 27) (List.mem_cons_self ..)).nine
  have HBW := Lib.hid (HL3.out.blk (g := W.heap.size) (t := 27) (cs := #[.int .i64 0, .string ⟨#[]⟩, .string ⟨#[]⟩, .string ⟨#[]⟩, .bool false, .int .i64 0, .int .i64 0, .int .i64 0, .slice none 0 0]) (List.mem_cons_of_mem _ (List.mem_cons_self ..)))
  obtain ⟨f0, f1, f2, f3, f4, f5, f6, f7, f8⟩ := HBW.out.ninef
  obtain ⟨z0, z1, z2, z3, z4, z5, z6, z7, z8⟩ := HBW.out.nine
  go_upto_region 99 with fail
  clear k0 k1 k2 k3 k4 k5 k6 k7 k8
  clear f0 f1 f2 f3 f4 f5 f6 f7 f8 z0 z1 z2 z3 z4 z5 z6 z7 z8
  obtain ⟨q0, q1, q2, q3, q4, q5, q6, q7, q8⟩ := (HBW.out.nine_set (.int .i64 k) (.string num) (.string den) (.string text) (.bool on) (.int .i64 code) (.int .i64 rr) (.int .i64 rc) (.slice A2 n2 c2)).1.nine
  have hcn := chg_nine w4 W.heap.size (.int .i64 k) (.string num) (.string den) (.string text) (.bool on) (.int .i64 code) (.int .i64 rr) (.int .i64 rc) (.slice A2 n2 c2)
  have hfr := HFR.out
  refine bodyPost_ret (v := .agg #[.int .i64 k, .string num, .string den, .string text, .bool on, .int .i64 code, .int .i64 rr, .int .i64 rc, .slice A2 n2 c2]) (by simp [results, Tryz.results7, go_sem, q0, q1, q2, q3, q4, q5, q6, q7, q8]) rfl ⟨k, num, den, text, on, code, rr, rc, A2, n2, c2, us, rfl, HP.out, reads_same2 HRS4.out hcn.size (fun b o e hb => hcn.block b hb (by
    have := hfr b o e
    rw [List.mem_singleton]
    omega)), HZ0.out, fun b o e => by have := hfr b o e; omega, HL3.out.bel.trans (hcn.below HL3.out.bel.size fun x hx => by rw [List.mem_singleton.1 hx]; exact Nat.le_refl _)⟩
end Go.Proofs.YtllhefjblipddaaGreatDoor

namespace Go.Proofs.YtllhefjblipddaaGreatDoor
open Go.RowKit

/-- A number, as a value. -/
def qV (s d : ByteArray) : Vl := ⟨1, s, d, ⟨#[]⟩, false, 0, 0, 0, none, 0, 0⟩
structure GN (s d : ByteArray) : Prop where
  ok : (qV s d).ok
  sz : (qV s d).sz
theorem gn_nV (k : Nat) (hk : k ≤ 1000) : GN (nt k) ⟨#[49]⟩ := ⟨nV_ok k (by omega), ⟨by have := nt_size k (by omega); show (nt k).size ≤ _; omega, by show (⟨#[49]⟩ : ByteArray).size ≤ _; decide, by show (⟨#[]⟩ : ByteArray).size ≤ _; decide⟩⟩
theorem kCmp_nn {x y : Nat} (hx : x ≤ 1000) (hy : y ≤ 1000) : kCmp (nV x) (nV y) = 0 ↔ x = y := by
  have e : ordV (nV x) (nV y) = orI (kCmp (nV x) (nV y)) (Cm.strC (nV x).text.data.toList (nV y).text.data.toList) := by
    unfold ordV
    rw [if_neg (fun h => h rfl), if_neg (show ¬ (nV x).k = 0 from (by decide : ¬ (1 : Int) = 0))]
  have hs : Cm.strC (nV x).text.data.toList (nV y).text.data.toList = 0 := by
    show Cm.strC (⟨#[]⟩ : ByteArray).data.toList (⟨#[]⟩ : ByteArray).data.toList = 0
    decide
  constructor
  · intro h
    have h0 : ordV (nV x) (nV y) = 0 := by rw [e, h, hs]; decide
    exact nt_inj (by omega) (by omega) (ordV_zero (nV_ok x (by omega)) (nV_ok y (by omega)) h0).2.1
  · rintro rfl
    have h0 : ordV (nV x) (nV x) = 0 := by
      have := (ordV_law (nV_ok x (by omega)) (nV_ok x (by omega)) (nV_ok x (by omega))).1
      omega
    rw [e] at h0
    exact (orI_zero h0).1
set_option maxRecDepth 100000 in
set_option maxHeartbeats 4000000 in
theorem both_n (s1 d1 s2 d2 : ByteArray) (W : World) (he : VEnv W) (h1 : GN s1 d1) (h2 : GN s2 d2) :
    Calls Tryz.prog 186 #[.agg #[.int .i64 1, .string s1, .string d1, .string ⟨#[]⟩, .bool false, .int .i64 0, .int .i64 0, .int .i64 0, .slice none 0 0], .agg #[.int .i64 1, .string s2, .string d2, .string ⟨#[]⟩, .bool false, .int .i64 0, .int .i64 0, .int .i64 0, .slice none 0 0], .int .i64 3] W fun e w' => e = .returned (.int .i64 0) ∧ Below W.heap.size W w' := by
  have HC1 := Lib.hid (show ∀ W', Below W.heap.size W W' → Calls Tryz.prog 71 #[.agg #[.int .i64 1, .string s1, .string d1, .string ⟨#[]⟩, .bool false, .int .i64 0, .int .i64 0, .int .i64 0, .slice none 0 0]] W' fun e w' => e = .returned (.int .i64 0) ∧ Below W'.heap.size W' w' from fun W' hW => check_t' (qV s1 d1) W' (he.below hW) h1.ok h1.sz.s1 h1.sz.s2 h1.sz.s3)
  have HC2 := Lib.hid (show ∀ W', Below W.heap.size W W' → Calls Tryz.prog 71 #[.agg #[.int .i64 1, .string s2, .string d2, .string ⟨#[]⟩, .bool false, .int .i64 0, .int .i64 0, .int .i64 0, .slice none 0 0]] W' fun e w' => e = .returned (.int .i64 0) ∧ Below W'.heap.size W' w' from fun W' hW => check_t' (qV s2 d2) W' (he.below hW) h2.ok h2.sz.s1 h2.sz.s2 h2.sz.s3)
  clear he h1 h2
  have HL0 := Lib.hid (((Loc.start W).alloc' rfl 27 #[.int .i64 1, .string s1, .string d1, .string ⟨#[]⟩, .bool false, .int .i64 0, .int .i64 0, .int .i64 0, .slice none 0 0]).alloc' (g := W.heap.size + 1) (by simp) 27 #[.int .i64 1, .string s2, .string d2, .string ⟨#[]⟩, .bool false, .int .i64 0, .int .i64 0, .int .i64 0, .slice none 0 0])
  go_enter Tryz.func186, Tryz.ntmps186
  go_wp2_with fail
  go_loopw [13] (fun i wr => ∃ m : Nat, m ≤ 2 ∧ i = .int .i64 (m : Int) ∧ Hid (Loc W [(W.heap.size + 1, 27, #[.int .i64 1, .string s2, .string d2, .string ⟨#[]⟩, .bool false, .int .i64 0, .int .i64 0, .int .i64 0, .slice none 0 0]), (W.heap.size, 27, #[.int .i64 1, .string s1, .string d1, .string ⟨#[]⟩, .bool false, .int .i64 0, .int .i64 0, .int .i64 0, .slice none 0 0])] wr)) (fun i _ => 2 - (intOf i).toNat)
  case atStart => exact ⟨0, by decide, rfl, HL0⟩
  case round =>
    obtain ⟨m, hm, rfl, HL⟩ := hrel
    rcases (show m = 0 ∨ m = 1 ∨ m = 2 by omega) with rfl | rfl | rfl
    · have hix := ix2_0
      go_wp2_with (go_at_call 71; (with_reducible refine (HC1.out _ (HL.out.alloc0 _).bel).mono ?_); rintro e w1 ⟨rfl, hb⟩; have HL1 := Lib.hid ((HL.out.alloc0 (.cells #[.int .i64 1, .string s1, .string d1, .string ⟨#[]⟩, .bool false, .int .i64 0, .int .i64 0, .int .i64 0, .slice none 0 0] 27)).step hb); clear hb)
      go_roundw
      case rel => exact ⟨1, by decide, rfl, HL1⟩
      case measure => simp [intOf]
    · have hix := ix2_1
      go_wp2_with (go_at_call 71; (with_reducible refine (HC2.out _ (HL.out.alloc0 _).bel).mono ?_); rintro e w1 ⟨rfl, hb⟩; have HL1 := Lib.hid ((HL.out.alloc0 (.cells #[.int .i64 1, .string s2, .string d2, .string ⟨#[]⟩, .bool false, .int .i64 0, .int .i64 0, .int .i64 0, .slice none 0 0] 27)).step hb); clear hb)
      go_roundw
      case rel => exact ⟨2, by decide, rfl, HL1⟩
      case measure => simp [intOf]
    · have x0 := (HL.out.blk (g := W.heap.size) (t := 27) (cs := #[.int .i64 1, .string s1, .string d1, .string ⟨#[]⟩, .bool false, .int .i64 0, .int .i64 0, .int .i64 0, .slice none 0 0]) (by simp)).cell 0
      have y0 := (HL.out.blk (g := W.heap.size + 1) (t := 27) (cs := #[.int .i64 1, .string s2, .string d2, .string ⟨#[]⟩, .bool false, .int .i64 0, .int .i64 0, .int .i64 0, .slice none 0 0]) (by simp)).cell 0
      simp only [List.getElem?_toArray, List.getElem?_cons_succ, List.getElem?_cons_zero] at x0 y0
      go_wp2_with fail
      all_goals
        go_ret
        exact ⟨rfl, HL.out.bel⟩
set_option maxRecDepth 100000 in
set_option maxHeartbeats 4000000 in
theorem like_n (s1 d1 s2 d2 : ByteArray) (W : World) :
    Calls Tryz.prog 220 #[.agg #[.int .i64 1, .string s1, .string d1, .string ⟨#[]⟩, .bool false, .int .i64 0, .int .i64 0, .int .i64 0, .slice none 0 0], .agg #[.int .i64 1, .string s2, .string d2, .string ⟨#[]⟩, .bool false, .int .i64 0, .int .i64 0, .int .i64 0, .slice none 0 0]] W fun e w' => e = .returned (.agg #[.int .i64 1, .string s1, .string d1, .string ⟨#[]⟩, .bool false, .int .i64 0, .int .i64 0, .int .i64 0, .slice none 0 0]) ∧ Below W.heap.size W w' := by
  have HL0 := Lib.hid ((((Loc.start W).alloc' rfl 27 #[.int .i64 1, .string s1, .string d1, .string ⟨#[]⟩, .bool false, .int .i64 0, .int .i64 0, .int .i64 0, .slice none 0 0]).alloc' (g := W.heap.size + 1) (by simp) 27 #[.int .i64 1, .string s2, .string d2, .string ⟨#[]⟩, .bool false, .int .i64 0, .int .i64 0, .int .i64 0, .slice none 0 0]).alloc' (g := W.heap.size + 1 + 1) (by simp) 27 #[.int .i64 0, .string ⟨#[]⟩, .string ⟨#[]⟩, .string ⟨#[]⟩, .bool false, .int .i64 0, .int .i64 0, .int .i64 0, .slice none 0 0])
  go_enter Tryz.func220, Tryz.ntmps220
  go_upto_region 2 with fail
  revert HL0
  generalize ((W.alloc (.cells #[.int .i64 1, .string s1, .string d1, .string ⟨#[]⟩, .bool false, .int .i64 0, .int .i64 0, .int .i64 0, .slice none 0 0] 27)).alloc (.cells #[.int .i64 1, .string s2, .string d2, .string ⟨#[]⟩, .bool false, .int .i64 0, .int .i64 0, .int .i64 0, .slice none 0 0] 27)).alloc (.cells #[.int .i64 0, .string ⟨#[]⟩, .string ⟨#[]⟩, .string ⟨#[]⟩, .bool false, .int .i64 0, .int .i64 0, .int .i64 0, .slice none 0 0] 27) = W1
  intro HL0
  obtain ⟨x0, x1, x2, x3, x4, x5, x6, x7, x8⟩ := (HL0.out.blk (g := W.heap.size) (t := 27) (cs := #[.int .i64 1, .string s1, .string d1, .string ⟨#[]⟩, .bool false, .int .i64 0, .int .i64 0, .int .i64 0, .slice none 0 0]) (List.mem_cons_of_mem _ (List.mem_cons_of_mem _ (List.mem_cons_self ..)))).nine
  have HBW := Lib.hid (HL0.out.blk (g := W.heap.size + 1 + 1) (t := 27) (cs := #[.int .i64 0, .string ⟨#[]⟩, .string ⟨#[]⟩, .string ⟨#[]⟩, .bool false, .int .i64 0, .int .i64 0, .int .i64 0, .slice none 0 0]) (List.mem_cons_self ..))
  obtain ⟨f0, f1, f2, f3, f4, f5, f6, f7, f8⟩ := HBW.out.ninef
  obtain ⟨z0, z1, z2, z3, z4, z5, z6, z7, z8⟩ := HBW.out.nine
  go_upto_region 99 with fail
  clear x0 x1 x2 x3 x4 x5 x6 x7 x8 f0 f1 f2 f3 f4 f5 f6 f7 f8 z0 z1 z2 z3 z4 z5 z6 z7 z8
  obtain ⟨q0, q1, q2, q3, q4, q5, q6, q7, q8⟩ := (HBW.out.nine_set (.int .i64 1) (.string s1) (.string d1) (.string ⟨#[]⟩) (.bool false) (.int .i64 0) (.int .i64 0) (.int .i64 0) (.slice none 0 0)).1.nine
  refine bodyPost_ret (v := .agg #[.int .i64 1, .string s1, .string d1, .string ⟨#[]⟩, .bool false, .int .i64 0, .int .i64 0, .int .i64 0, .slice none 0 0]) (by simp [results, Tryz.results220, go_sem, q0, q1, q2, q3, q4, q5, q6, q7, q8]) rfl ⟨rfl, below_nine HL0.out.bel (by omega) _ _ _ _ _ _ _ _ _⟩
set_option maxRecDepth 100000 in
set_option maxHeartbeats 16000000 in
theorem Compare_n (s1 d1 s2 d2 : ByteArray) (W : World) (he : VEnv W) (h1 : GN s1 d1) (h2 : GN s2 d2) :
    Calls Tryz.prog 170 #[.agg #[.int .i64 1, .string s1, .string d1, .string ⟨#[]⟩, .bool false, .int .i64 0, .int .i64 0, .int .i64 0, .slice none 0 0], .agg #[.int .i64 1, .string s2, .string d2, .string ⟨#[]⟩, .bool false, .int .i64 0, .int .i64 0, .int .i64 0, .slice none 0 0]] W fun e w' => e = .returned (.tuple #[.int .i64 (kCmp (qV s1 d1) (qV s2 d2)), .int .i64 0]) ∧ Below W.heap.size W w' := by
  have HBO := Lib.hid fun W' (hW : Below W.heap.size W W') => both_n s1 d1 s2 d2 W' (he.below hW) h1 h2
  have HCO := Lib.hid (show ∀ W', Calls Tryz.prog 190 #[.agg #[.int .i64 1, .string s1, .string d1, .string ⟨#[]⟩, .bool false, .int .i64 0, .int .i64 0, .int .i64 0, .slice none 0 0], .agg #[.int .i64 1, .string s2, .string d2, .string ⟨#[]⟩, .bool false, .int .i64 0, .int .i64 0, .int .i64 0, .slice none 0 0]] W' fun e w' => e = .returned (.int .i64 (kCmp (qV s1 d1) (qV s2 d2))) ∧ Below W'.heap.size W' w' from fun W' => compared_any (qV s1 d1) (qV s2 d2) W' h1.ok h2.ok rfl (by decide : ¬ (1 : Int) = 0) h1.sz h2.sz)
  have HK1 := Lib.hid fun W' => like_n s1 d1 s2 d2 W'
  have HK2 := Lib.hid fun W' => like_n s2 d2 s1 d1 W'
  generalize kCmp (qV s1 d1) (qV s2 d2) = z at *
  clear he h1 h2
  have HL0 := Lib.hid (((Loc.start W).alloc' rfl 27 #[.int .i64 1, .string s1, .string d1, .string ⟨#[]⟩, .bool false, .int .i64 0, .int .i64 0, .int .i64 0, .slice none 0 0]).alloc' (g := W.heap.size + 1) (by simp) 27 #[.int .i64 1, .string s2, .string d2, .string ⟨#[]⟩, .bool false, .int .i64 0, .int .i64 0, .int .i64 0, .slice none 0 0])
  have HCL := Lib.hid (show ∀ w', Loc W [(W.heap.size + 1, 27, #[.int .i64 1, .string s2, .string d2, .string ⟨#[]⟩, .bool false, .int .i64 0, .int .i64 0, .int .i64 0, .slice none 0 0]), (W.heap.size, 27, #[.int .i64 1, .string s1, .string d1, .string ⟨#[]⟩, .bool false, .int .i64 0, .int .i64 0, .int .i64 0, .slice none 0 0])] w' → w'.cell? ⟨W.heap.size, 0, none⟩ = some (.int .i64 1) ∧ w'.cell? ⟨W.heap.size, 1, none⟩ = some (.string s1) ∧ w'.cell? ⟨W.heap.size, 2, none⟩ = some (.string d1) ∧ w'.cell? ⟨W.heap.size, 3, none⟩ = some (.string ⟨#[]⟩) ∧ w'.cell? ⟨W.heap.size, 4, none⟩ = some (.bool false) ∧ w'.cell? ⟨W.heap.size, 5, none⟩ = some (.int .i64 0) ∧ w'.cell? ⟨W.heap.size, 6, none⟩ = some (.int .i64 0) ∧ w'.cell? ⟨W.heap.size, 7, none⟩ = some (.int .i64 0) ∧ w'.cell? ⟨W.heap.size, 8, none⟩ = some (.slice none 0 0) ∧ w'.cell? ⟨W.heap.size + 1, 0, none⟩ = some (.int .i64 1) ∧ w'.cell? ⟨W.heap.size + 1, 1, none⟩ = some (.string s2) ∧ w'.cell? ⟨W.heap.size + 1, 2, none⟩ = some (.string d2) ∧ w'.cell? ⟨W.heap.size + 1, 3, none⟩ = some (.string ⟨#[]⟩) ∧ w'.cell? ⟨W.heap.size + 1, 4, none⟩ = some (.bool false) ∧ w'.cell? ⟨W.heap.size + 1, 5, none⟩ = some (.int .i64 0) ∧ w'.cell? ⟨W.heap.size + 1, 6, none⟩ = some (.int .i64 0) ∧ w'.cell? ⟨W.heap.size + 1, 7, none⟩ = some (.int .i64 0) ∧ w'.cell? ⟨W.heap.size + 1, 8, none⟩ = some (.slice none 0 0) from fun w' h => by
    have h1 := h.blk (g := W.heap.size) (t := 27) (List.mem_cons_of_mem _ (List.mem_cons_self ..))
    have h2 := h.blk (g := W.heap.size + 1) (t := 27) (List.mem_cons_self ..)
    exact ⟨h1.cell 0, h1.cell 1, h1.cell 2, h1.cell 3, h1.cell 4, h1.cell 5, h1.cell 6, h1.cell 7, h1.cell 8, h2.cell 0, h2.cell 1, h2.cell 2, h2.cell 3, h2.cell 4, h2.cell 5, h2.cell 6, h2.cell 7, h2.cell 8⟩)
  have HCF := Lib.hid (show ∀ w', Loc W [(W.heap.size + 1, 27, #[.int .i64 1, .string s2, .string d2, .string ⟨#[]⟩, .bool false, .int .i64 0, .int .i64 0, .int .i64 0, .slice none 0 0]), (W.heap.size, 27, #[.int .i64 1, .string s1, .string d1, .string ⟨#[]⟩, .bool false, .int .i64 0, .int .i64 0, .int .i64 0, .slice none 0 0])] w' → (w'.frozen? ⟨W.heap.size, 0, none⟩ = false ∧ w'.frozen? ⟨W.heap.size, 1, none⟩ = false ∧ w'.frozen? ⟨W.heap.size, 2, none⟩ = false ∧ w'.frozen? ⟨W.heap.size, 3, none⟩ = false ∧ w'.frozen? ⟨W.heap.size, 4, none⟩ = false ∧ w'.frozen? ⟨W.heap.size, 5, none⟩ = false ∧ w'.frozen? ⟨W.heap.size, 6, none⟩ = false ∧ w'.frozen? ⟨W.heap.size, 7, none⟩ = false ∧ w'.frozen? ⟨W.heap.size, 8, none⟩ = false) ∧ (w'.frozen? ⟨W.heap.size + 1, 0, none⟩ = false ∧ w'.frozen? ⟨W.heap.size + 1, 1, none⟩ = false ∧ w'.frozen? ⟨W.heap.size + 1, 2, none⟩ = false ∧ w'.frozen? ⟨W.heap.size + 1, 3, none⟩ = false ∧ w'.frozen? ⟨W.heap.size + 1, 4, none⟩ = false ∧ w'.frozen? ⟨W.heap.size + 1, 5, none⟩ = false ∧ w'.frozen? ⟨W.heap.size + 1, 6, none⟩ = false ∧ w'.frozen? ⟨W.heap.size + 1, 7, none⟩ = false ∧ w'.frozen? ⟨W.heap.size + 1, 8, none⟩ = false) from fun w' h => ⟨(h.blk (g := W.heap.size) (t := 27) (List.mem_cons_of_mem _ (List.mem_cons_self ..))).ninef, (h.blk (g := W.heap.size + 1) (t := 27) (List.mem_cons_self ..)).ninef⟩)
  have HST := Lib.hid (show ∀ w', Loc W [(W.heap.size + 1, 27, #[.int .i64 1, .string s2, .string d2, .string ⟨#[]⟩, .bool false, .int .i64 0, .int .i64 0, .int .i64 0, .slice none 0 0]), (W.heap.size, 27, #[.int .i64 1, .string s1, .string d1, .string ⟨#[]⟩, .bool false, .int .i64 0, .int .i64 0, .int .i64 0, .slice none 0 0])] w' → Loc W [(W.heap.size + 1, 27, #[.int .i64 1, .string s2, .string d2, .string ⟨#[]⟩, .bool false, .int .i64 0, .int .i64 0, .int .i64 0, .slice none 0 0]), (W.heap.size, 27, #[.int .i64 1, .string s1, .string d1, .string ⟨#[]⟩, .bool false, .int .i64 0, .int .i64 0, .int .i64 0, .slice none 0 0])] (((((((((w'.setCell ⟨W.heap.size, 0, none⟩ (.int .i64 1)).setCell ⟨W.heap.size, 1, none⟩ (.string s1)).setCell ⟨W.heap.size, 2, none⟩ (.string d1)).setCell ⟨W.heap.size, 3, none⟩ (.string ⟨#[]⟩)).setCell ⟨W.heap.size, 4, none⟩ (.bool false)).setCell ⟨W.heap.size, 5, none⟩ (.int .i64 0)).setCell ⟨W.heap.size, 6, none⟩ (.int .i64 0)).setCell ⟨W.heap.size, 7, none⟩ (.int .i64 0)).setCell ⟨W.heap.size, 8, none⟩ (.slice none 0 0)) ∧ Loc W [(W.heap.size + 1, 27, #[.int .i64 1, .string s2, .string d2, .string ⟨#[]⟩, .bool false, .int .i64 0, .int .i64 0, .int .i64 0, .slice none 0 0]), (W.heap.size, 27, #[.int .i64 1, .string s1, .string d1, .string ⟨#[]⟩, .bool false, .int .i64 0, .int .i64 0, .int .i64 0, .slice none 0 0])] ((((((((((((((((((w'.setCell ⟨W.heap.size, 0, none⟩ (.int .i64 1)).setCell ⟨W.heap.size, 1, none⟩ (.string s1)).setCell ⟨W.heap.size, 2, none⟩ (.string d1)).setCell ⟨W.heap.size, 3, none⟩ (.string ⟨#[]⟩)).setCell ⟨W.heap.size, 4, none⟩ (.bool false)).setCell ⟨W.heap.size, 5, none⟩ (.int .i64 0)).setCell ⟨W.heap.size, 6, none⟩ (.int .i64 0)).setCell ⟨W.heap.size, 7, none⟩ (.int .i64 0)).setCell ⟨W.heap.size, 8, none⟩ (.slice none 0 0)).setCell ⟨W.heap.size + 1, 0, none⟩ (.int .i64 1)).setCell ⟨W.heap.size + 1, 1, none⟩ (.string s2)).setCell ⟨W.heap.size + 1, 2, none⟩ (.string d2)).setCell ⟨W.heap.size + 1, 3, none⟩ (.string ⟨#[]⟩)).setCell ⟨W.heap.size + 1, 4, none⟩ (.bool false)).setCell ⟨W.heap.size + 1, 5, none⟩ (.int .i64 0)).setCell ⟨W.heap.size + 1, 6, none⟩ (.int .i64 0)).setCell ⟨W.heap.size + 1, 7, none⟩ (.int .i64 0)).setCell ⟨W.heap.size + 1, 8, none⟩ (.slice none 0 0)) from fun w' h => by
    have h1 : Loc W [(W.heap.size + 1, 27, #[.int .i64 1, .string s2, .string d2, .string ⟨#[]⟩, .bool false, .int .i64 0, .int .i64 0, .int .i64 0, .slice none 0 0]), (W.heap.size, 27, #[.int .i64 1, .string s1, .string d1, .string ⟨#[]⟩, .bool false, .int .i64 0, .int .i64 0, .int .i64 0, .slice none 0 0])] (((((((((w'.setCell ⟨W.heap.size, 0, none⟩ (.int .i64 1)).setCell ⟨W.heap.size, 1, none⟩ (.string s1)).setCell ⟨W.heap.size, 2, none⟩ (.string d1)).setCell ⟨W.heap.size, 3, none⟩ (.string ⟨#[]⟩)).setCell ⟨W.heap.size, 4, none⟩ (.bool false)).setCell ⟨W.heap.size, 5, none⟩ (.int .i64 0)).setCell ⟨W.heap.size, 6, none⟩ (.int .i64 0)).setCell ⟨W.heap.size, 7, none⟩ (.int .i64 0)).setCell ⟨W.heap.size, 8, none⟩ (.slice none 0 0)) := loc_swap ((loc_swap h).set9k (one_ne (by omega)) (.int .i64 1) (.string s1) (.string d1) (.string ⟨#[]⟩) (.bool false) (.int .i64 0) (.int .i64 0) (.int .i64 0) (.slice none 0 0))
    exact ⟨h1, h1.set9k (one_ne (by omega)) (.int .i64 1) (.string s2) (.string d2) (.string ⟨#[]⟩) (.bool false) (.int .i64 0) (.int .i64 0) (.int .i64 0) (.slice none 0 0)⟩)
  go_enter Tryz.func170, Tryz.ntmps170
  go_upto_region 1 with fail
  revert HL0
  generalize (W.alloc (.cells #[.int .i64 1, .string s1, .string d1, .string ⟨#[]⟩, .bool false, .int .i64 0, .int .i64 0, .int .i64 0, .slice none 0 0] 27)).alloc (.cells #[.int .i64 1, .string s2, .string d2, .string ⟨#[]⟩, .bool false, .int .i64 0, .int .i64 0, .int .i64 0, .slice none 0 0] 27) = W1
  intro HL0
  obtain ⟨x0, x1, x2, x3, x4, x5, x6, x7, x8, y0, y1, y2, y3, y4, y5, y6, y7, y8⟩ := HCL.out _ HL0.out
  go_upto_region 4 with (go_at_call 186; (with_reducible refine (HBO.out _ HL0.out.bel).mono ?_); rintro e w2 ⟨rfl, hb⟩; have HL1 := Lib.hid (HL0.out.step hb); clear hb)
  clear x0 x1 x2 x3 x4 x5 x6 x7 x8 y0 y1 y2 y3 y4 y5 y6 y7 y8 HL0
  refine wp_region_G (S1 := fun w' => w'.cell? ⟨W.heap.size, 0, none⟩ = some (.int .i64 1) ∧ w'.cell? ⟨W.heap.size, 1, none⟩ = some (.string s1) ∧ w'.cell? ⟨W.heap.size, 2, none⟩ = some (.string d1) ∧ w'.cell? ⟨W.heap.size, 3, none⟩ = some (.string ⟨#[]⟩) ∧ w'.cell? ⟨W.heap.size, 4, none⟩ = some (.bool false) ∧ w'.cell? ⟨W.heap.size, 5, none⟩ = some (.int .i64 0) ∧ w'.cell? ⟨W.heap.size, 6, none⟩ = some (.int .i64 0) ∧ w'.cell? ⟨W.heap.size, 7, none⟩ = some (.int .i64 0) ∧ w'.cell? ⟨W.heap.size, 8, none⟩ = some (.slice none 0 0) ∧ w'.cell? ⟨W.heap.size + 1, 0, none⟩ = some (.int .i64 1) ∧ w'.cell? ⟨W.heap.size + 1, 1, none⟩ = some (.string s2) ∧ w'.cell? ⟨W.heap.size + 1, 2, none⟩ = some (.string d2) ∧ w'.cell? ⟨W.heap.size + 1, 3, none⟩ = some (.string ⟨#[]⟩) ∧ w'.cell? ⟨W.heap.size + 1, 4, none⟩ = some (.bool false) ∧ w'.cell? ⟨W.heap.size + 1, 5, none⟩ = some (.int .i64 0) ∧ w'.cell? ⟨W.heap.size + 1, 6, none⟩ = some (.int .i64 0) ∧ w'.cell? ⟨W.heap.size + 1, 7, none⟩ = some (.int .i64 0) ∧ w'.cell? ⟨W.heap.size + 1, 8, none⟩ = some (.slice none 0 0)) (S2 := fun _ => True) (d := 99) (by kernel_rfl) (HCL.out _ HL1.out.drew) trivial (fun hT => ?_)
  refine wpAnyG_take1d (i := 0) (v := ?_) rfl rfl (by kernel_rfl) (by kernel_rfl) (by kernel_rfl) (by kernel_rfl) (fun _ _ _ h => h) (Or.inl ⟨by rfl, ?_⟩) (by assumption) (fun hT => ?_)
  rotate_left
  · intro w hSw
    (try dsimp only at hSw)
    go_simp
    (try with_reducible rfl)
  (try simp only [Act.put, List.setIfInBounds_toArray, List.set_cons_zero, List.set_cons_succ])
  refine wpAnyG_take1d (i := 1) (v := ?_) rfl rfl (by kernel_rfl) (by kernel_rfl) (by kernel_rfl) (by kernel_rfl) (fun _ _ _ h => h) (Or.inl ⟨by rfl, ?_⟩) (by assumption) (fun hT => ?_)
  rotate_left
  · intro w hSw
    (try dsimp only at hSw)
    go_simp
    (try with_reducible rfl)
  (try simp only [Act.put, List.setIfInBounds_toArray, List.set_cons_zero, List.set_cons_succ])
  refine wpAnyG_take1d (i := 3) (v := ?_) rfl rfl (by kernel_rfl) (by kernel_rfl) (by kernel_rfl) (by kernel_rfl) (fun _ _ _ h => h) (Or.inl ⟨by rfl, ?_⟩) (by assumption) (fun hT => ?_)
  rotate_left
  · intro w hSw
    (try dsimp only at hSw)
    go_simp
    (try with_reducible rfl)
  (try simp only [Act.put, List.setIfInBounds_toArray, List.set_cons_zero, List.set_cons_succ])
  refine wpAnyG_take1d (i := 4) (v := ?_) rfl rfl (by kernel_rfl) (by kernel_rfl) (by kernel_rfl) (by kernel_rfl) (fun _ _ _ h => h) (Or.inl ⟨by rfl, ?_⟩) (by assumption) (fun hT => ?_)
  rotate_left
  · intro w hSw
    (try dsimp only at hSw)
    go_simp
    (try with_reducible rfl)
  (try simp only [Act.put, List.setIfInBounds_toArray, List.set_cons_zero, List.set_cons_succ])
  refine wpAnyG_ready (rs := [2]) (by kernel_rfl) (by simp) ?_
  refine AllG.cons (i := 2) rfl (fun K hK => ?_) AllG.nil
  go_simp
  go_at_call 220
  (with_reducible refine (HK1.out _).mono ?_)
  rintro e w3 ⟨rfl, hb⟩
  have HL3 := Lib.hid (HL1.out.step (by first | exact hb | exact (Below.refl _ _).drew.trans hb))
  clear hb
  refine hK.out _ _ ⟨HCL.out _ HL3.out, .inr trivial⟩ (fun hT => ?_)
  clear hK K
  (try simp only [Act.put, List.setIfInBounds_toArray, List.set_cons_zero, List.set_cons_succ])
  refine wpAnyG_ready (rs := [5]) (by kernel_rfl) (by simp) ?_
  refine AllG.cons (i := 5) rfl (fun K hK => ?_) AllG.nil
  go_simp
  go_at_call 220
  (with_reducible refine (HK2.out _).mono ?_)
  rintro e w4 ⟨rfl, hb⟩
  have HL4 := Lib.hid (HL3.out.step (by first | exact hb | exact (Below.refl _ _).drew.trans hb))
  clear hb
  have HL5 := Lib.hid (HST.out _ HL4.out)
  obtain ⟨x0, x1, x2, x3, x4, x5, x6, x7, x8, y0, y1, y2, y3, y4, y5, y6, y7, y8⟩ := HCL.out _ HL4.out
  obtain ⟨⟨f0, f1, f2, f3, f4, f5, f6, f7, f8⟩, ⟨g0, g1, g2, g3, g4, g5, g6, g7, g8⟩⟩ := HCF.out _ HL4.out
  refine hK.out _ _ ⟨HCL.out _ HL4.out, .inr trivial⟩ (fun hT => ?_)
  clear hK K
  (try simp only [Act.put, List.setIfInBounds_toArray, List.set_cons_zero, List.set_cons_succ])
  refine wpAnyG_ready (rs := [6]) (by kernel_rfl) (by simp) ?_
  refine AllG.cons (i := 6) rfl (fun K hK => ?_) AllG.nil
  go_simp
  refine hK.out _ _ ⟨HCL.out _ HL5.out.1, .inr trivial⟩ (fun hT => ?_)
  clear hK K
  (try simp only [Act.put, List.setIfInBounds_toArray, List.set_cons_zero, List.set_cons_succ])
  clear x0 x1 x2 x3 x4 x5 x6 x7 x8 y0 y1 y2 y3 y4 y5 y6 y7 y8 f0 f1 f2 f3 f4 f5 f6 f7 f8 g0 g1 g2 g3 g4 g5 g6 g7 g8
  obtain ⟨x0, x1, x2, x3, x4, x5, x6, x7, x8, y0, y1, y2, y3, y4, y5, y6, y7, y8⟩ := HCL.out _ HL5.out.1
  obtain ⟨⟨f0, f1, f2, f3, f4, f5, f6, f7, f8⟩, ⟨g0, g1, g2, g3, g4, g5, g6, g7, g8⟩⟩ := HCF.out _ HL5.out.1
  refine wpAnyG_ready (rs := [7]) (by kernel_rfl) (by simp) ?_
  refine AllG.cons (i := 7) rfl (fun K hK => ?_) AllG.nil
  go_simp
  refine hK.out _ _ ⟨HCL.out _ HL5.out.2, .inr trivial⟩ (fun hT => ?_)
  clear hK K
  (try simp only [Act.put, List.setIfInBounds_toArray, List.set_cons_zero, List.set_cons_succ])
  refine wpAnyG_done (by kernel_rfl) ?_ _
  clear x0 x1 x2 x3 x4 x5 x6 x7 x8 y0 y1 y2 y3 y4 y5 y6 y7 y8 f0 f1 f2 f3 f4 f5 f6 f7 f8 g0 g1 g2 g3 g4 g5 g6 g7 g8
  have HL6 := Lib.hid HL5.out.2
  clear HL5
  revert HL6
  generalize (((((((((((((((((w4.setCell ⟨W.heap.size, 0, none⟩ (.int .i64 1)).setCell ⟨W.heap.size, 1, none⟩ (.string s1)).setCell ⟨W.heap.size, 2, none⟩ (.string d1)).setCell ⟨W.heap.size, 3, none⟩ (.string ⟨#[]⟩)).setCell ⟨W.heap.size, 4, none⟩ (.bool false)).setCell ⟨W.heap.size, 5, none⟩ (.int .i64 0)).setCell ⟨W.heap.size, 6, none⟩ (.int .i64 0)).setCell ⟨W.heap.size, 7, none⟩ (.int .i64 0)).setCell ⟨W.heap.size, 8, none⟩ (.slice none 0 0)).setCell ⟨W.heap.size + 1, 0, none⟩ (.int .i64 1)).setCell ⟨W.heap.size + 1, 1, none⟩ (.string s2)).setCell ⟨W.heap.size + 1, 2, none⟩ (.string d2)).setCell ⟨W.heap.size + 1, 3, none⟩ (.string ⟨#[]⟩)).setCell ⟨W.heap.size + 1, 4, none⟩ (.bool false)).setCell ⟨W.heap.size + 1, 5, none⟩ (.int .i64 0)).setCell ⟨W.heap.size + 1, 6, none⟩ (.int .i64 0)).setCell ⟨W.heap.size + 1, 7, none⟩ (.int .i64 0)).setCell ⟨W.heap.size + 1, 8, none⟩ (.slice none 0 0) = w5
  intro HL6
  obtain ⟨x0, x1, x2, x3, x4, x5, x6, x7, x8, y0, y1, y2, y3, y4, y5, y6, y7, y8⟩ := HCL.out _ HL6.out
  go_upto_region 99 with (go_at_call 190; (with_reducible refine (HCO.out _).mono ?_); rintro e w6 ⟨rfl, hb⟩; have HL7 := Lib.hid (HL6.out.step hb); clear hb)
  clear x0 x1 x2 x3 x4 x5 x6 x7 x8 y0 y1 y2 y3 y4 y5 y6 y7 y8
  refine bodyPost_ret (v := .tuple #[.int .i64 z, .int .i64 0]) (by simp [results, Tryz.results170, go_sem]) rfl ⟨rfl, HL7.out.bel⟩
set_option maxRecDepth 100000 in
set_option maxHeartbeats 8000000 in
theorem cmpf_n (s1 d1 s2 d2 : ByteArray) (W : World) (he : VEnv W) (h1 : GN s1 d1) (h2 : GN s2 d2) :
    Calls Tryz.prog 168 #[.agg #[.int .i64 1, .string s1, .string d1, .string ⟨#[]⟩, .bool false, .int .i64 0, .int .i64 0, .int .i64 0, .slice none 0 0], .agg #[.int .i64 1, .string s2, .string d2, .string ⟨#[]⟩, .bool false, .int .i64 0, .int .i64 0, .int .i64 0, .slice none 0 0]] W fun e w' => e = .returned (.tuple #[.int .i64 (kCmp (qV s1 d1) (qV s2 d2)), .bool true]) ∧ Below W.heap.size W w' := by
  have HCO := Lib.hid fun W' (hW : Below W.heap.size W W') => Compare_n s1 d1 s2 d2 W' (he.below hW) h1 h2
  generalize kCmp (qV s1 d1) (qV s2 d2) = z at *
  clear he h1 h2
  have HL0 := Lib.hid (((Loc.start W).alloc' rfl 27 #[.int .i64 1, .string s1, .string d1, .string ⟨#[]⟩, .bool false, .int .i64 0, .int .i64 0, .int .i64 0, .slice none 0 0]).alloc' (g := W.heap.size + 1) (by simp) 27 #[.int .i64 1, .string s2, .string d2, .string ⟨#[]⟩, .bool false, .int .i64 0, .int .i64 0, .int .i64 0, .slice none 0 0])
  have HCL := Lib.hid (show ∀ w', Loc W [(W.heap.size + 1, 27, #[.int .i64 1, .string s2, .string d2, .string ⟨#[]⟩, .bool false, .int .i64 0, .int .i64 0, .int .i64 0, .slice none 0 0]), (W.heap.size, 27, #[.int .i64 1, .string s1, .string d1, .string ⟨#[]⟩, .bool false, .int .i64 0, .int .i64 0, .int .i64 0, .slice none 0 0])] w' → w'.cell? ⟨W.heap.size, 0, none⟩ = some (.int .i64 1) ∧ w'.cell? ⟨W.heap.size, 1, none⟩ = some (.string s1) ∧ w'.cell? ⟨W.heap.size, 2, none⟩ = some (.string d1) ∧ w'.cell? ⟨W.heap.size, 3, none⟩ = some (.string ⟨#[]⟩) ∧ w'.cell? ⟨W.heap.size, 4, none⟩ = some (.bool false) ∧ w'.cell? ⟨W.heap.size, 5, none⟩ = some (.int .i64 0) ∧ w'.cell? ⟨W.heap.size, 6, none⟩ = some (.int .i64 0) ∧ w'.cell? ⟨W.heap.size, 7, none⟩ = some (.int .i64 0) ∧ w'.cell? ⟨W.heap.size, 8, none⟩ = some (.slice none 0 0) ∧ w'.cell? ⟨W.heap.size + 1, 0, none⟩ = some (.int .i64 1) ∧ w'.cell? ⟨W.heap.size + 1, 1, none⟩ = some (.string s2) ∧ w'.cell? ⟨W.heap.size + 1, 2, none⟩ = some (.string d2) ∧ w'.cell? ⟨W.heap.size + 1, 3, none⟩ = some (.string ⟨#[]⟩) ∧ w'.cell? ⟨W.heap.size + 1, 4, none⟩ = some (.bool false) ∧ w'.cell? ⟨W.heap.size + 1, 5, none⟩ = some (.int .i64 0) ∧ w'.cell? ⟨W.heap.size + 1, 6, none⟩ = some (.int .i64 0) ∧ w'.cell? ⟨W.heap.size + 1, 7, none⟩ = some (.int .i64 0) ∧ w'.cell? ⟨W.heap.size + 1, 8, none⟩ = some (.slice none 0 0) from fun w' h => by
    have h1 := h.blk (g := W.heap.size) (t := 27) (List.mem_cons_of_mem _ (List.mem_cons_self ..))
    have h2 := h.blk (g := W.heap.size + 1) (t := 27) (List.mem_cons_self ..)
    exact ⟨h1.cell 0, h1.cell 1, h1.cell 2, h1.cell 3, h1.cell 4, h1.cell 5, h1.cell 6, h1.cell 7, h1.cell 8, h2.cell 0, h2.cell 1, h2.cell 2, h2.cell 3, h2.cell 4, h2.cell 5, h2.cell 6, h2.cell 7, h2.cell 8⟩)
  go_enter Tryz.func168, Tryz.ntmps168
  go_upto_region 1 with fail
  revert HL0
  generalize (W.alloc (.cells #[.int .i64 1, .string s1, .string d1, .string ⟨#[]⟩, .bool false, .int .i64 0, .int .i64 0, .int .i64 0, .slice none 0 0] 27)).alloc (.cells #[.int .i64 1, .string s2, .string d2, .string ⟨#[]⟩, .bool false, .int .i64 0, .int .i64 0, .int .i64 0, .slice none 0 0] 27) = W1
  intro HL0
  obtain ⟨x0, x1, x2, x3, x4, x5, x6, x7, x8, y0, y1, y2, y3, y4, y5, y6, y7, y8⟩ := HCL.out _ HL0.out
  go_upto_region 99 with (go_at_call 170; (with_reducible refine (HCO.out _ HL0.out.bel).mono ?_); rintro e w2 ⟨rfl, hb⟩; have HL1 := Lib.hid (HL0.out.step hb); clear hb)
  clear x0 x1 x2 x3 x4 x5 x6 x7 x8 y0 y1 y2 y3 y4 y5 y6 y7 y8 HL0
  refine bodyPost_ret (v := .tuple #[.int .i64 z, .bool true]) (by simp [results, Tryz.results168, go_sem]) rfl ⟨rfl, HL1.out.bel⟩
end Go.Proofs.YtllhefjblipddaaGreatDoor

namespace Go.Proofs.YtllhefjblipddaaGreatDoor
open Go.RowKit

theorem ordV_nn {x y : Nat} (hx : x ≤ 1000) (hy : y ≤ 1000) : ordV (nV x) (nV y) = 0 ↔ x = y := by
  constructor
  · intro h
    have := (ordV_zero (nV_ok x (by omega)) (nV_ok y (by omega)) h).2.1
    exact nt_inj (by omega) (by omega) this
  · rintro rfl
    have := (ordV_law (nV_ok x (by omega)) (nV_ok x (by omega)) (nV_ok x (by omega))).1
    omega
theorem low_e (W : World) : Calls Tryz.prog 144 #[.string ⟨#[]⟩] W fun e w' => e = .returned (.string ⟨#[]⟩) ∧ Below W.heap.size W w' := lower_any ⟨#[]⟩ W (by decide)
/-- The cells of one whole number of a slice. -/
theorem nv_at {b o c x : Nat} {W : World} (h : Reads 9 csV W (.slice (some ⟨b, o, none⟩) 1 c) [nV x]) : b < W.heap.size ∧ ∀ W', Below W.heap.size W W' → W'.cell? ⟨b, o, none⟩ = some (.int .i64 1) ∧ W'.cell? ⟨b, o + 1, none⟩ = some (.string (nt x)) ∧ W'.cell? ⟨b, o + 2, none⟩ = some (.string ⟨#[49]⟩) ∧ W'.cell? ⟨b, o + 3, none⟩ = some (.string ⟨#[]⟩) ∧ W'.cell? ⟨b, o + 4, none⟩ = some (.bool false) ∧ W'.cell? ⟨b, o + 5, none⟩ = some (.int .i64 0) ∧ W'.cell? ⟨b, o + 6, none⟩ = some (.int .i64 0) ∧ W'.cell? ⟨b, o + 7, none⟩ = some (.int .i64 0) ∧ W'.cell? ⟨b, o + 8, none⟩ = some (.slice none 0 0) := by
  obtain ⟨hl, hb, hc⟩ := h.lt (by omega)
  refine ⟨hb, fun W' hW => ?_⟩
  have g : ∀ j, j < 9 → W'.cell? ⟨b, o + j, none⟩ = (csV (nV x))[j]? := fun j hj => by
    have h1 := hc 0 (by simp) j hj
    rw [show o + (0 * 9 + j) = o + j by omega] at h1
    exact (hW.cell (by exact hb)).trans h1
  exact ⟨g 0 (by decide), g 1 (by decide), g 2 (by decide), g 3 (by decide), g 4 (by decide), g 5 (by decide), g 6 (by decide), g 7 (by decide), g 8 (by decide)⟩
set_option maxRecDepth 100000 in
set_option maxHeartbeats 8000000 in
theorem alike_any (b1 o1 c1 b2 o2 c2 x y : Nat) (W : World) (he : VEnv W) (hx : x ≤ 1000) (hy : y ≤ 1000) (h1 : Reads 9 csV W (.slice (some ⟨b1, o1, none⟩) 1 c1) [nV x]) (h2 : Reads 9 csV W (.slice (some ⟨b2, o2, none⟩) 1 c2) [nV y]) :
    Calls Tryz.prog 104 #[.slice (some ⟨b1, o1, none⟩) 1 c1, .slice (some ⟨b2, o2, none⟩) 1 c2] W fun e w' => ∃ z : Int, e = .returned (.int .i64 z) ∧ (z = 0 ↔ x = y) ∧ Below W.heap.size W w' := by
  have HLW := Lib.hid low_e
  have HZ := Lib.hid (ordV_nn hx hy)
  have HO := Lib.hid (show ∀ W', Below W.heap.size W W' → Calls Tryz.prog 142 #[(nV x).v, (nV y).v] W' fun e w' => e = .returned (.tuple #[.int .i64 (ordV (nV x) (nV y)), .int .i64 0]) ∧ Below W'.heap.size W' w' from fun W' hW => order_any (nV x) (nV y) W' (he.below hW) (gn_nV x hx).ok (gn_nV y hy).ok (gn_nV x hx).sz (gn_nV y hy).sz)
  obtain ⟨z, hz⟩ : ∃ z, z = ordV (nV x) (nV y) := ⟨_, rfl⟩
  rw [← hz] at HZ HO
  obtain ⟨e0, e1, e2, e3, e4, e5, e6, e7, e8⟩ := (nv_at h1).2 W (Below.refl _ _)
  have HB2 := Lib.hid (nv_at h2)
  clear h1 h2 he hx hy hz
  unfold nV Vl.v Vl.cs at *
  dsimp only at *
  generalize nt x = s at *
  generalize nt y = t at *
  have HL0 := Lib.hid (((Loc.start W).alloc' rfl 27 #[.int .i64 1, .string s, .string ⟨#[49]⟩, .string ⟨#[]⟩, .bool false, .int .i64 0, .int .i64 0, .int .i64 0, .slice none 0 0]).alloc' (g := W.heap.size + 1) (by simp) 27 #[.int .i64 1, .string t, .string ⟨#[49]⟩, .string ⟨#[]⟩, .bool false, .int .i64 0, .int .i64 0, .int .i64 0, .slice none 0 0])
  obtain ⟨d0, d1, d2, d3, d4, d5, d6, d7, d8⟩ := HB2.out.2 _ (below_al W (.cells #[.int .i64 1, .string s, .string ⟨#[49]⟩, .string ⟨#[]⟩, .bool false, .int .i64 0, .int .i64 0, .int .i64 0, .slice none 0 0] 27))
  go_enter Tryz.func104, Tryz.ntmps104
  go_wp2_with fail
  refine wp_loop_rounds 2 ?_
  rw [rounds_succ]
  go_upto_region 5 with fail
  clear e0 e1 e2 e3 e4 e5 e6 e7 e8 d0 d1 d2 d3 d4 d5 d6 d7 d8
  revert HL0
  generalize (W.alloc (.cells #[.int .i64 1, .string s, .string ⟨#[49]⟩, .string ⟨#[]⟩, .bool false, .int .i64 0, .int .i64 0, .int .i64 0, .slice none 0 0] 27)).alloc (.cells #[.int .i64 1, .string t, .string ⟨#[49]⟩, .string ⟨#[]⟩, .bool false, .int .i64 0, .int .i64 0, .int .i64 0, .slice none 0 0] 27) = W1
  intro HL1
  have HCL := Lib.hid (show ∀ w', Loc W [(W.heap.size + 1, 27, #[.int .i64 1, .string t, .string ⟨#[49]⟩, .string ⟨#[]⟩, .bool false, .int .i64 0, .int .i64 0, .int .i64 0, .slice none 0 0]), (W.heap.size, 27, #[.int .i64 1, .string s, .string ⟨#[49]⟩, .string ⟨#[]⟩, .bool false, .int .i64 0, .int .i64 0, .int .i64 0, .slice none 0 0])] w' → w'.cell? ⟨W.heap.size, 3, none⟩ = some (.string ⟨#[]⟩) ∧ w'.cell? ⟨W.heap.size + 1, 3, none⟩ = some (.string ⟨#[]⟩) from fun w' h => ⟨(h.blk (g := W.heap.size) (t := 27) (List.mem_cons_of_mem _ (List.mem_cons_self ..))).cell 3, (h.blk (g := W.heap.size + 1) (t := 27) (List.mem_cons_self ..)).cell 3⟩)
  have HCF := Lib.hid (show ∀ w', Loc W [(W.heap.size + 1, 27, #[.int .i64 1, .string t, .string ⟨#[49]⟩, .string ⟨#[]⟩, .bool false, .int .i64 0, .int .i64 0, .int .i64 0, .slice none 0 0]), (W.heap.size, 27, #[.int .i64 1, .string s, .string ⟨#[49]⟩, .string ⟨#[]⟩, .bool false, .int .i64 0, .int .i64 0, .int .i64 0, .slice none 0 0])] w' → w'.frozen? ⟨W.heap.size, 3, none⟩ = false ∧ w'.frozen? ⟨W.heap.size + 1, 3, none⟩ = false ∧ True from fun w' h => ⟨(h.blk (g := W.heap.size) (t := 27) (List.mem_cons_of_mem _ (List.mem_cons_self ..))).frozen 3, (h.blk (g := W.heap.size + 1) (t := 27) (List.mem_cons_self ..)).frozen 3, trivial⟩)
  have HST := Lib.hid (show ∀ w', Loc W [(W.heap.size + 1, 27, #[.int .i64 1, .string t, .string ⟨#[49]⟩, .string ⟨#[]⟩, .bool false, .int .i64 0, .int .i64 0, .int .i64 0, .slice none 0 0]), (W.heap.size, 27, #[.int .i64 1, .string s, .string ⟨#[49]⟩, .string ⟨#[]⟩, .bool false, .int .i64 0, .int .i64 0, .int .i64 0, .slice none 0 0])] w' → Loc W [(W.heap.size + 1, 27, #[.int .i64 1, .string t, .string ⟨#[49]⟩, .string ⟨#[]⟩, .bool false, .int .i64 0, .int .i64 0, .int .i64 0, .slice none 0 0]), (W.heap.size, 27, #[.int .i64 1, .string s, .string ⟨#[49]⟩, .string ⟨#[]⟩, .bool false, .int .i64 0, .int .i64 0, .int .i64 0, .slice none 0 0])] (w'.setCell ⟨W.heap.size, 3, none⟩ (.string ⟨#[]⟩)) ∧ Loc W [(W.heap.size + 1, 27, #[.int .i64 1, .string t, .string ⟨#[49]⟩, .string ⟨#[]⟩, .bool false, .int .i64 0, .int .i64 0, .int .i64 0, .slice none 0 0]), (W.heap.size, 27, #[.int .i64 1, .string s, .string ⟨#[49]⟩, .string ⟨#[]⟩, .bool false, .int .i64 0, .int .i64 0, .int .i64 0, .slice none 0 0])] ((w'.setCell ⟨W.heap.size, 3, none⟩ (.string ⟨#[]⟩)).setCell ⟨W.heap.size + 1, 3, none⟩ (.string ⟨#[]⟩)) from fun w' h => by
    have h1 : Loc W [(W.heap.size + 1, 27, #[.int .i64 1, .string t, .string ⟨#[49]⟩, .string ⟨#[]⟩, .bool false, .int .i64 0, .int .i64 0, .int .i64 0, .slice none 0 0]), (W.heap.size, 27, #[.int .i64 1, .string s, .string ⟨#[49]⟩, .string ⟨#[]⟩, .bool false, .int .i64 0, .int .i64 0, .int .i64 0, .slice none 0 0])] (w'.setCell ⟨W.heap.size, 3, none⟩ (.string ⟨#[]⟩)) := loc_swap ((loc_swap h).set1 (i := 3) (one_ne (by omega)) (.string ⟨#[]⟩))
    exact ⟨h1, h1.set1 (i := 3) (one_ne (by omega)) (.string ⟨#[]⟩)⟩)
  go_upto_region 5 with fail
  refine wp_region_G (S1 := fun w' => w'.cell? ⟨W.heap.size, 3, none⟩ = some (.string ⟨#[]⟩) ∧ w'.cell? ⟨W.heap.size + 1, 3, none⟩ = some (.string ⟨#[]⟩)) (S2 := fun _ => True) (d := 99) (by kernel_rfl) (HCL.out _ HL1.out.drew) trivial (fun hT => ?_)
  refine wpAnyG_take1d (i := 0) (v := ?_) rfl rfl (by kernel_rfl) (by kernel_rfl) (by kernel_rfl) (by kernel_rfl) (fun _ _ _ h => h) (Or.inl ⟨by rfl, ?_⟩) (by assumption) (fun hT => ?_)
  rotate_left
  · intro w hSw
    (try dsimp only at hSw)
    go_simp
    (try with_reducible rfl)
  (try simp only [Act.put, List.setIfInBounds_toArray, List.set_cons_zero, List.set_cons_succ])
  refine wpAnyG_take1d (i := 1) (v := ?_) rfl rfl (by kernel_rfl) (by kernel_rfl) (by kernel_rfl) (by kernel_rfl) (fun _ _ _ h => h) (Or.inl ⟨by rfl, ?_⟩) (by assumption) (fun hT => ?_)
  rotate_left
  · intro w hSw
    (try dsimp only at hSw)
    go_simp
    (try with_reducible rfl)
  (try simp only [Act.put, List.setIfInBounds_toArray, List.set_cons_zero, List.set_cons_succ])
  refine wpAnyG_take1d (i := 3) (v := ?_) rfl rfl (by kernel_rfl) (by kernel_rfl) (by kernel_rfl) (by kernel_rfl) (fun _ _ _ h => h) (Or.inl ⟨by rfl, ?_⟩) (by assumption) (fun hT => ?_)
  rotate_left
  · intro w hSw
    (try dsimp only at hSw)
    go_simp
    (try with_reducible rfl)
  (try simp only [Act.put, List.setIfInBounds_toArray, List.set_cons_zero, List.set_cons_succ])
  refine wpAnyG_take1d (i := 4) (v := ?_) rfl rfl (by kernel_rfl) (by kernel_rfl) (by kernel_rfl) (by kernel_rfl) (fun _ _ _ h => h) (Or.inl ⟨by rfl, ?_⟩) (by assumption) (fun hT => ?_)
  rotate_left
  · intro w hSw
    (try dsimp only at hSw)
    go_simp
    (try with_reducible rfl)
  (try simp only [Act.put, List.setIfInBounds_toArray, List.set_cons_zero, List.set_cons_succ])
  refine wpAnyG_ready (rs := [2]) (by kernel_rfl) (by simp) ?_
  refine AllG.cons (i := 2) rfl (fun K hK => ?_) AllG.nil
  go_simp
  go_at_call 144
  (with_reducible refine (HLW.out _).mono ?_)
  rintro e w3 ⟨rfl, hb⟩
  have HL3 := Lib.hid (HL1.out.step (by first | exact hb | exact (Below.refl _ _).drew.trans hb))
  clear hb
  refine hK.out _ _ ⟨HCL.out _ HL3.out, .inr trivial⟩ (fun hT => ?_)
  clear hK K
  (try simp only [Act.put, List.setIfInBounds_toArray, List.set_cons_zero, List.set_cons_succ])
  refine wpAnyG_take1d (i := 6) (v := ?_) rfl rfl (by kernel_rfl) (by kernel_rfl) (by kernel_rfl) (by kernel_rfl) (fun _ _ _ h => h) (Or.inl ⟨by rfl, ?_⟩) (by assumption) (fun hT => ?_)
  rotate_left
  · intro w hSw
    (try dsimp only at hSw)
    go_simp
    (try with_reducible rfl)
  (try simp only [Act.put, List.setIfInBounds_toArray, List.set_cons_zero, List.set_cons_succ])
  refine wpAnyG_ready (rs := [5]) (by kernel_rfl) (by simp) ?_
  refine AllG.cons (i := 5) rfl (fun K hK => ?_) AllG.nil
  go_simp
  go_at_call 144
  (with_reducible refine (HLW.out _).mono ?_)
  rintro e w4 ⟨rfl, hb⟩
  have HL4 := Lib.hid (HL3.out.step (by first | exact hb | exact (Below.refl _ _).drew.trans hb))
  clear hb
  have s3 := (HCF.out _ HL4.out).1
  have t3 := (HCF.out _ HL4.out).2.1
  have s4 := (HCL.out _ HL4.out).1
  have s5 := (HCL.out _ HL4.out).2
  have HL5 := Lib.hid (HST.out _ HL4.out)
  refine hK.out _ _ ⟨HCL.out _ HL4.out, .inr trivial⟩ (fun hT => ?_)
  clear hK K
  (try simp only [Act.put, List.setIfInBounds_toArray, List.set_cons_zero, List.set_cons_succ])
  refine wpAnyG_ready (rs := [7]) (by kernel_rfl) (by simp) ?_
  refine AllG.cons (i := 7) rfl (fun K hK => ?_) AllG.nil
  go_simp
  refine hK.out _ _ ⟨HCL.out _ HL5.out.1, .inr trivial⟩ (fun hT => ?_)
  clear hK K
  (try simp only [Act.put, List.setIfInBounds_toArray, List.set_cons_zero, List.set_cons_succ])
  clear s3 t3 s4 s5
  have s3 := (HCF.out _ HL5.out.1).1
  have t3 := (HCF.out _ HL5.out.1).2.1
  have s4 := (HCL.out _ HL5.out.1).1
  have s5 := (HCL.out _ HL5.out.1).2
  refine wpAnyG_take1d (i := 8) (v := ?_) rfl rfl (by kernel_rfl) (by kernel_rfl) (by kernel_rfl) (by kernel_rfl) (fun _ _ _ h => h) (Or.inl ⟨by rfl, ?_⟩) (by assumption) (fun hT => ?_)
  rotate_left
  · intro w hSw
    (try dsimp only at hSw)
    go_simp
    (try with_reducible rfl)
  (try simp only [Act.put, List.setIfInBounds_toArray, List.set_cons_zero, List.set_cons_succ])
  refine wpAnyG_ready (rs := [9]) (by kernel_rfl) (by simp) ?_
  refine AllG.cons (i := 9) rfl (fun K hK => ?_) AllG.nil
  go_simp
  refine hK.out _ _ ⟨HCL.out _ HL5.out.2, .inr trivial⟩ (fun hT => ?_)
  clear hK K
  (try simp only [Act.put, List.setIfInBounds_toArray, List.set_cons_zero, List.set_cons_succ])
  refine wpAnyG_done (by kernel_rfl) ?_ _
  clear s3 t3 s4 s5
  have HL6 := Lib.hid HL5.out.2
  clear HL5
  revert HL6
  generalize (w4.setCell ⟨W.heap.size, 3, none⟩ (.string ⟨#[]⟩)).setCell ⟨W.heap.size + 1, 3, none⟩ (.string ⟨#[]⟩) = w5
  intro HL6
  obtain ⟨e0, e1, e2, e3, e4, e5, e6, e7, e8⟩ := (HL6.out.blk (g := W.heap.size) (t := 27) (cs := #[.int .i64 1, .string s, .string ⟨#[49]⟩, .string ⟨#[]⟩, .bool false, .int .i64 0, .int .i64 0, .int .i64 0, .slice none 0 0]) (List.mem_cons_of_mem _ (List.mem_cons_self ..))).nine
  obtain ⟨d0, d1, d2, d3, d4, d5, d6, d7, d8⟩ := (HL6.out.blk (g := W.heap.size + 1) (t := 27) (cs := #[.int .i64 1, .string t, .string ⟨#[49]⟩, .string ⟨#[]⟩, .bool false, .int .i64 0, .int .i64 0, .int .i64 0, .slice none 0 0]) (List.mem_cons_self ..)).nine
  go_upto_region 7 with (go_at_call 142; (with_reducible refine (HO.out _ HL6.out.bel).mono ?_); rintro e w6 ⟨rfl, hb⟩; have HL7 := Lib.hid (HL6.out.step hb); clear hb)
  clear e0 e1 e2 e3 e4 e5 e6 e7 e8 d0 d1 d2 d3 d4 d5 d6 d7 d8
  by_cases hz : z = 0
  · have hz1 : (z != 0) = false := by rw [hz]; rfl
    have hz2 : ¬ z ≠ 0 := fun h => h hz
    have HZ0 := Lib.hid hz
    clear hz
    go_wp2_with fail
    rw [rounds_succ]
    go_wp2_with fail
    (try simp only [Exit.inBlock, Exit.then])
    refine bodyPost_ret (v := .int .i64 0) (by simp [results, Tryz.results104, go_sem]) rfl ⟨0, rfl, ⟨fun _ => HZ.out.1 HZ0.out, fun _ => rfl⟩, HL7.out.bel⟩
  · have hz1 : (z != 0) = true := by rw [bne_iff_ne]; exact hz
    go_wp2_with fail
    (try simp only [Exit.inBlock, Exit.then])
    refine bodyPost_ret (v := .int .i64 z) (by simp [results, Tryz.results104, go_sem]) rfl ⟨z, rfl, HZ.out, HL7.out.bel⟩
end Go.Proofs.YtllhefjblipddaaGreatDoor

namespace Go.Proofs.YtllhefjblipddaaGreatDoor
open Go.RowKit

/-- Numbers, as values. -/
def nVs (R : Nat) (v : Nat → Nat) : List Vl := (List.range R).map fun i => nV (v i)
theorem nVs_len (R : Nat) (v : Nat → Nat) : (nVs R v).length = R := by simp [nVs]
theorem nVs_at {R : Nat} {v : Nat → Nat} {i : Nat} (h : i < R) : ((nVs R v).drop i).take 1 = [nV (v i)] := by
  have hl : i < (nVs R v).length := by rw [nVs_len]; exact h
  rw [List.drop_eq_getElem_cons hl]
  simp [nVs]
theorem row1_a (R i : Nat) (b o cc : Nat) (v : Nat → Nat) (W : World) (hi : i < R) (hR : R ≤ 1000) (hU : Reads 9 csV W (.slice (some ⟨b, o, none⟩) R cc) (nVs R v)) (W' : World) (hW : Below W.heap.size W W') : Calls Tryz.prog 85 #[gV R 1 (some ⟨b, o, none⟩) R cc, .int .i64 (i : Int)] W' fun e w' => e = .returned (.slice (some ⟨b, o + i * 9, none⟩) 1 (cc - i)) ∧ Reads 9 csV w' (.slice (some ⟨b, o + i * 9, none⟩) 1 (cc - i)) [nV (v i)] ∧ Below W'.heap.size W' w' := by
  have hcap := reads_cap hU
  refine (row_a R 1 R i i b o cc W' (by omega) (by omega) hcap (by decide) (by omega)).mono ?_
  rintro e w' ⟨rfl, hb⟩
  refine ⟨rfl, ?_, hb⟩
  have h := reads_part ((hU.below hW).below hb) (by omega) i 1 (cc - i) (by omega) (by omega)
  rw [nVs_at hi] at h
  exact h
set_option maxRecDepth 100000 in
set_option maxHeartbeats 4000000 in
theorem uniq1_any (R p i k : Nat) (b o cc : Nat) (v : Nat → Nat) (W : World) (he : VEnv W) (hi : i < R) (hk : k < R) (hR : R ≤ 1000) (hv : ∀ i, i < R → v i ≤ 1000) (hp : Blk W p 69 #[.int .i64 (R : Int), .int .i64 1, .slice (some ⟨b, o, none⟩) R cc]) (hU : Reads 9 csV W (.slice (some ⟨b, o, none⟩) R cc) (nVs R v)) :
    Calls Tryz.prog 103 #[.int .i64 (i : Int), .int .i64 (k : Int), .pointer (some ⟨p, 0, none⟩)] W fun e w' => ∃ z : Int, e = .returned (.int .i64 z) ∧ (z = 0 ↔ v i = v k) ∧ Below W.heap.size W w' := by
  have HR1 := Lib.hid (show ∀ W', Below W.heap.size W W' → Calls Tryz.prog 85 #[.agg #[.int .i64 (R : Int), .int .i64 1, .slice (some ⟨b, o, none⟩) R cc], .int .i64 (i : Int)] W' fun e w' => e = .returned (.slice (some ⟨b, o + i * 9, none⟩) 1 (cc - i)) ∧ Reads 9 csV w' (.slice (some ⟨b, o + i * 9, none⟩) 1 (cc - i)) [nV (v i)] ∧ Below W'.heap.size W' w' from fun W' hW => row1_a R i b o cc v W hi hR hU W' hW)
  have HR2 := Lib.hid (show ∀ W', Below W.heap.size W W' → Calls Tryz.prog 85 #[.agg #[.int .i64 (R : Int), .int .i64 1, .slice (some ⟨b, o, none⟩) R cc], .int .i64 (k : Int)] W' fun e w' => e = .returned (.slice (some ⟨b, o + k * 9, none⟩) 1 (cc - k)) ∧ Reads 9 csV w' (.slice (some ⟨b, o + k * 9, none⟩) 1 (cc - k)) [nV (v k)] ∧ Below W'.heap.size W' w' from fun W' hW => row1_a R k b o cc v W hk hR hU W' hW)
  have HAL := Lib.hid fun W' (hW : Below W.heap.size W W') (h1 : Reads 9 csV W' (.slice (some ⟨b, o + i * 9, none⟩) 1 (cc - i)) [nV (v i)]) (h2 : Reads 9 csV W' (.slice (some ⟨b, o + k * 9, none⟩) 1 (cc - k)) [nV (v k)]) => alike_any b (o + i * 9) (cc - i) b (o + k * 9) (cc - k) (v i) (v k) W' (he.below hW) (hv i hi) (hv k hk) h1 h2
  have HCL := Lib.hid (show ∀ W', Below W.heap.size W W' → W'.cell? ⟨p, 0, none⟩ = some (.int .i64 (R : Int)) ∧ W'.cell? ⟨p, 1, none⟩ = some (.int .i64 1) ∧ W'.cell? ⟨p, 2, none⟩ = some (.slice (some ⟨b, o, none⟩) R cc) from fun W' hW => ⟨(hp.later hW).cell 0, (hp.later hW).cell 1, (hp.later hW).cell 2⟩)
  obtain ⟨x, hx⟩ : ∃ x, x = o + i * 9 := ⟨_, rfl⟩
  obtain ⟨y, hy⟩ : ∃ y, y = o + k * 9 := ⟨_, rfl⟩
  rw [← hx] at HR1 HAL
  rw [← hy] at HR2 HAL
  have HB0 := Lib.hid (Below.refl W.heap.size W)
  clear he hi hk hv hp hU hx hy
  go_enter Tryz.func103, Tryz.ntmps103
  go_upto_region 1 with fail
  obtain ⟨x0, x1, x2⟩ := HCL.out _ HB0.out
  go_region_held3 (fun w' => w'.cell? ⟨p, 0, none⟩ = some (.int .i64 (R : Int)) ∧ w'.cell? ⟨p, 1, none⟩ = some (.int .i64 1) ∧ w'.cell? ⟨p, 2, none⟩ = some (.slice (some ⟨b, o, none⟩) R cc)) (first | exact ⟨by assumption, by assumption, by assumption⟩ | exact HCL.out _ HB3.out | exact HCL.out _ HB2.out | exact HCL.out _ HB1.out) (first
    | (go_at_call 85; (with_reducible refine (HR1.out _ HB0.out.drew).mono ?_); rintro e w1 ⟨rfl, hr, hb⟩; have HB1 := Lib.hid (HB0.out.drew.trans hb); have HD1 := Lib.hid hr; clear hr hb)
    | (go_at_call 85; (with_reducible refine (HR2.out _ HB1.out).mono ?_); rintro e w2 ⟨rfl, hr, hb⟩; have HB2 := Lib.hid (HB1.out.trans (hb.mono HB1.out.size)); have HD2 := Lib.hid hr; have HD1b := Lib.hid (HD1.out.below hb); clear hr hb)
    | (go_at_call 104; (with_reducible refine (HAL.out _ HB2.out HD1b.out HD2.out).mono ?_); rintro e w3 ⟨z, rfl, hz, hb⟩; have HB3 := Lib.hid (HB2.out.trans (hb.mono HB2.out.size)); have HZ := Lib.hid hz; clear hz hb))
  go_wp2_with fail
  go_ret
  exact ⟨z, rfl, HZ.out, HB3.out⟩
end Go.Proofs.YtllhefjblipddaaGreatDoor

namespace Go.Proofs.YtllhefjblipddaaGreatDoor
open Go.RowKit

def pkL (zs : List Nat) (v : Nat → Nat) (j : Nat) : List Vl := (zs.take j).map fun z => nV (v z)
theorem pkL_zero (zs : List Nat) (v : Nat → Nat) : pkL zs v 0 = [] := by simp [pkL]
theorem pkL_len (zs : List Nat) (v : Nat → Nat) (j : Nat) (h : j ≤ zs.length) : (pkL zs v j).length = j := by simp [pkL, h]
theorem pkL_step (v : Nat → Nat) (zs : List Nat) (j R : Nat) (h : j < zs.length) (hz : zs[j]! < R) : pkL zs v (j + 1) = pkL zs v j ++ ((nVs R v).drop zs[j]!).take 1 := by
  rw [nVs_at hz, getElem!_pos zs j h]
  unfold pkL
  rw [← List.take_append_getElem h, List.map_append]
  rfl
theorem pkL_all (zs : List Nat) (v : Nat → Nat) (m : Nat) (h : zs.length = m) : pkL zs v m = zs.map fun z => nV (v z) := by
  unfold pkL
  rw [List.take_of_length_le (by omega)]
set_option maxRecDepth 100000 in
set_option maxHeartbeats 8000000 in
theorem pick1_a (R m : Nat) (b o cc : Nat) (A2 : Option Addr) (c2 : Nat) (v : Nat → Nat) (zs : List Nat) (W : World) (r1 : 1 ≤ R) (r2 : R ≤ 1000) (hU : Reads 9 csV W (.slice (some ⟨b, o, none⟩) R cc) (nVs R v)) (m1 : 1 ≤ m) (hm : zs.length = m) (hmR : m ≤ 1000) (hzb : ∀ i, i < m → zs[i]! < R) (hZ : Reads 1 (fun z : Int => [Value.int .i64 z]) W (.slice A2 m c2) (zs.map fun (z : Nat) => (z : Int))) : Calls Tryz.prog 90 #[gV R 1 (some ⟨b, o, none⟩) R cc, .slice A2 m c2] W fun e w' => ∃ g c', e = .returned (gV m 1 (some ⟨g, 0, none⟩) m c') ∧ Reads 9 csV w' (.slice (some ⟨g, 0, none⟩) m c') (pkL zs v m) ∧ W.heap.size ≤ g ∧ Below W.heap.size W w' := by
  have hul : (nVs R v).length = R := nVs_len R v
  have hcap := reads_cap hU
  have HLN := Lib.hid (show ∀ j, j ≤ m → (pkL zs v j).length = j from fun j hj => pkL_len zs v j (by omega))
  have HXL := Lib.hid (show ∀ j, j < m → j < zs.length from fun j hj => by omega)
  have HXB := Lib.hid hzb
  have HZC := Lib.hid (show ∀ j, j < m → ∃ b o, A2 = some ⟨b, o, none⟩ ∧ ∀ W', Below W.heap.size W W' → W'.cell? ⟨b, o + j, none⟩ = some (.int .i64 ((zs[j]! : Nat) : Int)) from fun j hj => by
    obtain ⟨A', c', e, -, -, h3⟩ := hZ
    injection e with e1 e2 e3
    obtain ⟨b, o, e4, hb, hc⟩ := h3 (by simp; omega)
    refine ⟨b, o, e1.trans e4, fun W' hW => (hW.cell (by exact hb)).trans ?_⟩
    have hjz : j < zs.length := by omega
    have := hc j (by simpa using hjz) 0 (by decide)
    rw [show o + (j * 1 + 0) = o + j by omega] at this
    rw [this, List.getElem_map, getElem!_pos zs j hjz]
    rfl)
  have HU := Lib.hid hU
  have HC := Lib.hid hcap
  have d5 : ¬ (100000 : Int) < (m : Int) := by omega
  clear hm hzb
  have HL0 := Lib.hid ((((Loc.start W).alloc' rfl 69 #[.int .i64 (R : Int), .int .i64 1, .slice (some ⟨b, o, none⟩) R cc]).alloc' (g := W.heap.size + 1) (by simp) 69 #[.int .i64 0, .int .i64 0, .slice none 0 0]).alloc' (g := W.heap.size + 1 + 1) (by simp) 69 #[.int .i64 (m : Int), .int .i64 1, .slice none 0 0])
  have HS0 := Lib.hid (show W.heap.size + 3 ≤ (((W.alloc (.cells #[.int .i64 (R : Int), .int .i64 1, .slice (some ⟨b, o, none⟩) R cc] 69)).alloc (.cells #[.int .i64 0, .int .i64 0, .slice none 0 0] 69)).alloc (.cells #[.int .i64 (m : Int), .int .i64 1, .slice none 0 0] 69)).heap.size from by simp)
  clear hU hZ hcap hul
  go_enter Tryz.func90, Tryz.ntmps90
  go_upto_region 2 with fail
  revert HL0 HS0
  generalize ((W.alloc (.cells #[.int .i64 (R : Int), .int .i64 1, .slice (some ⟨b, o, none⟩) R cc] 69)).alloc (.cells #[.int .i64 0, .int .i64 0, .slice none 0 0] 69)).alloc (.cells #[.int .i64 (m : Int), .int .i64 1, .slice none 0 0] 69) = W1
  intro HL0 HS0
  have HCL := Lib.hid (show ∀ w' vv, Loc W [(W.heap.size + 1 + 1, 69, #[.int .i64 (m : Int), .int .i64 1, vv]), (W.heap.size + 1, 69, #[.int .i64 0, .int .i64 0, .slice none 0 0]), (W.heap.size, 69, #[.int .i64 (R : Int), .int .i64 1, .slice (some ⟨b, o, none⟩) R cc])] w' → w'.cell? ⟨W.heap.size, 0, none⟩ = some (.int .i64 (R : Int)) ∧ w'.cell? ⟨W.heap.size, 1, none⟩ = some (.int .i64 1) ∧ w'.cell? ⟨W.heap.size, 2, none⟩ = some (.slice (some ⟨b, o, none⟩) R cc) ∧ w'.cell? ⟨W.heap.size + 1 + 1, 2, none⟩ = some vv from fun w' vv h => by
    have h1 := h.blk (g := W.heap.size) (t := 69) (List.mem_cons_of_mem _ (List.mem_cons_of_mem _ (List.mem_cons_self ..)))
    have h2 := h.blk (g := W.heap.size + 1 + 1) (t := 69) (List.mem_cons_self ..)
    exact ⟨h1.cell 0, h1.cell 1, h1.cell 2, h2.cell 2⟩)
  obtain ⟨g0, g1, g2, v2⟩ := HCL.out _ _ HL0.out
  go_upto_block 0 with (go_at_call 81; (with_reducible refine (stop_f _ _).mono ?_); rintro e wq ⟨rfl, rfl⟩)
  clear g0 g1 g2 v2 d5
  go_cut [27] (fun u27 wz => ∃ vv, Hid (Loc W [(W.heap.size + 1 + 1, 69, #[.int .i64 (m : Int), .int .i64 1, vv]), (W.heap.size + 1, 69, #[.int .i64 0, .int .i64 0, .slice none 0 0]), (W.heap.size, 69, #[.int .i64 (R : Int), .int .i64 1, .slice (some ⟨b, o, none⟩) R cc])] wz) ∧ Hid (RowOf 27 9 csV wz (W.heap.size + 3) vv (pkL zs v m)))
  case first =>
    go_wp2_with fail
    go_loopw [27] (fun u27 wz => ∃ (j : Nat) (vv : Value), j ≤ m ∧ u27 = .int .i64 (j : Int) ∧ Hid (Loc W [(W.heap.size + 1 + 1, 69, #[.int .i64 (m : Int), .int .i64 1, vv]), (W.heap.size + 1, 69, #[.int .i64 0, .int .i64 0, .slice none 0 0]), (W.heap.size, 69, #[.int .i64 (R : Int), .int .i64 1, .slice (some ⟨b, o, none⟩) R cc])] wz) ∧ Hid (RowOf 27 9 csV wz (W.heap.size + 3) vv (pkL zs v j)) ∧ Hid (W.heap.size + 3 ≤ wz.heap.size)) (fun u _ => m - (intOf u).toNat)
    case atStart => exact ⟨0, .slice none 0 0, by omega, rfl, HL0, Lib.hid (by rw [pkL_zero]; exact RowOf.nil _ _), HS0⟩
    case round =>
      clear HL0 HS0
      obtain ⟨j, vv, hj, rfl, HL, HO, HS⟩ := hrel
      by_cases hlt : j < m
      · have hlz : (j : Int) < (m : Int) := by omega
        have j0 : 0 ≤ (j : Int) := by omega
        obtain ⟨g0, g1, g2, v2⟩ := HCL.out _ _ HL.out
        have j1 : IntKind.i64.wrap ((j : Int) + 1) = (j : Int) + 1 := IntWalk.i64_in _ (by omega)
        obtain ⟨zb, zo, rfl, hzc⟩ := HZC.out j hlt
        have z0 := hzc wr HL.out.bel
        obtain ⟨x, hx⟩ : ∃ x, x = zs[j]! := ⟨_, rfl⟩
        have hxn := HXB.out j hlt
        rw [← hx] at z0 hxn
        have HRW := Lib.hid (show ∀ W', Calls Tryz.prog 85 #[.agg #[.int .i64 (R : Int), .int .i64 1, .slice (some ⟨b, o, none⟩) R cc], .int .i64 (x : Int)] W' fun e w' => e = .returned (.slice (some ⟨b, o + x * 9, none⟩) 1 (cc - x)) ∧ Below W'.heap.size W' w' from fun W' => row_a R 1 R x x b o cc W' (by omega) (by omega) HC.out (by decide) (by omega))
        have hst := pkL_step v zs j R (HXL.out j hlt) (by rw [← hx]; exact hxn)
        rw [← hx] at hst
        have HST := Lib.hid hst
        have HLW := Lib.hid (HLN.out j hj)
        obtain ⟨LL, hLL⟩ : ∃ LL, LL = pkL zs v j := ⟨_, rfl⟩
        rw [← hLL] at HO HST HLW
        have HRD := Lib.hid (show ∀ W', Below W.heap.size W W' → Reads 9 csV W' (.slice (some ⟨b, o + x * 9, none⟩) 1 (cc - x)) (((nVs R v).drop x).take 1) from fun W' hW => reads_part (HU.out.below hW) (by omega) x 1 (cc - x) hxn (by have := HC.out; omega))
        have hml : (((nVs R v).drop x).take 1).length = 1 := by
          rw [nVs_at hxn]
          rfl
        obtain ⟨MM, hMM⟩ : ∃ MM, MM = ((nVs R v).drop x).take 1 := ⟨_, rfl⟩
        rw [← hMM] at HRD hml HST
        have HML := Lib.hid hml
        clear hLL hMM hml hst hx hzc
        have HPT := Lib.hid (show ∀ w2 w' vv', Loc W [(W.heap.size + 1 + 1, 69, #[.int .i64 (m : Int), .int .i64 1, vv]), (W.heap.size + 1, 69, #[.int .i64 0, .int .i64 0, .slice none 0 0]), (W.heap.size, 69, #[.int .i64 (R : Int), .int .i64 1, .slice (some ⟨b, o, none⟩) R cc])] w2 → RowOf 27 9 csV w' (W.heap.size + 3) vv' (LL ++ MM) → Below (W.heap.size + 3) w2 w' → W.heap.size + 3 ≤ w2.heap.size → (w'.cell? ⟨W.heap.size + 1 + 1, 2, none⟩ = some vv ∧ w'.frozen? ⟨W.heap.size + 1 + 1, 2, none⟩ = false) ∧ Loc W [(W.heap.size + 1 + 1, 69, #[.int .i64 (m : Int), .int .i64 1, vv']), (W.heap.size + 1, 69, #[.int .i64 0, .int .i64 0, .slice none 0 0]), (W.heap.size, 69, #[.int .i64 (R : Int), .int .i64 1, .slice (some ⟨b, o, none⟩) R cc])] (w'.setCell ⟨W.heap.size + 1 + 1, 2, none⟩ vv') ∧ RowOf 27 9 csV (w'.setCell ⟨W.heap.size + 1 + 1, 2, none⟩ vv') (W.heap.size + 3) vv' (LL ++ MM) ∧ W.heap.size + 3 ≤ (w'.setCell ⟨W.heap.size + 1 + 1, 2, none⟩ vv').heap.size from fun w2 w' vv' hl ho hb hs => by
          have hl2 := hl.stepB' hb (by omega) (fun x hx => by
            simp only [List.mem_cons, List.not_mem_nil, or_false] at hx
            rcases hx with rfl | rfl | rfl <;> dsimp only <;> omega)
          have hz := hl2.blk (g := W.heap.size + 1 + 1) (t := 69) (List.mem_cons_self ..)
          refine ⟨⟨hz.cell 2, hz.frozen 2⟩, hl2.set1 (i := 2) (fun x hx => ?_) vv', RowOf.far ho (fun g hg e => ?_) vv', ?_⟩
          · simp only [List.mem_cons, List.not_mem_nil, or_false] at hx
            rcases hx with rfl | rfl <;> dsimp only <;> omega
          · have h1 := (RowOf.lt ho g hg).1
            have e : g = W.heap.size + 1 + 1 := e
            omega
          · have h1 := hb.size
            simp only [World.setCell, Array.size_modify]
            omega)
        go_upto_region 6 with fail
        go_region_law (first
          | (go_simp; go_at_call 85; (with_reducible refine (HRW.out _).mono ?_); rintro e w3 ⟨rfl, hb⟩; have hb := (Below.refl wr.heap.size wr).drew.trans hb; have HL3 := Lib.hid (HL.out.step hb); have HO3 := Lib.hid (RowOf.later HO.out hb); have HS3 := Lib.hid (Nat.le_trans HS.out hb.size); have v3 := (HCL.out _ _ HL3.out).2.2.2; have HRD3 := Lib.hid (HRD.out _ HL3.out.bel); rw [← HML.out] at HRD3; clear hb v2 g0 g1 g2)
          | (refine step_rowN 25 27 9 112 csV _ Tryz.underlying25 val_info rfl (by decide) csV_one rfl (.tmp 32) (.tmp 35) rfl (W.heap.size + 3) vv LL rfl HO3.out MM b (o + x * 9) (cc - x) (by rw [HML.out]; rfl) (by rw [HML.out] at HRD3 ⊢; exact HRD3.out) (by rw [HML.out]; omega) (by have := HLW.out; have := HML.out; omega) (by have := HLW.out; have := HML.out; unfold maxLen; omega) HS3.out ?_; intro gx cx w4 ho hb hgr; have HX := Lib.hid (HPT.out _ _ _ HL3.out ho hb HS3.out); have s8 := HX.out.1.1; have t8 := HX.out.1.2; clear ho hb hgr))
        all_goals
          clear s8 t8
          go_wp2_with fail
          go_roundw
          case rel => exact ⟨j + 1, _, by omega, by go_num, Lib.hid HX.out.2.1, Lib.hid (by have := HX.out.2.2.1; rw [← HST.out] at this; exact this), Lib.hid HX.out.2.2.2⟩
          case measure => simp [intOf]; omega
      · obtain rfl : j = m := by omega
        go_wp2_with fail
        go_meet
        exact ⟨vv, HL, HO⟩
  case rest =>
    obtain ⟨vv, HL9, HO9⟩ := hcut
    have hlm := HLN.out m (Nat.le_refl _)
    have hp : 0 < m := m1
    obtain ⟨g, c', hv, hg, -⟩ := HO9.out.form (by rw [hlm]; exact hp)
    rw [hlm] at hv
    subst hv
    have hne : ∀ g', Value.ownBlock (.slice (some ⟨g, 0, none⟩) m c') = some g' → g' ≠ W.heap.size + 1 := fun g' e => by
      injection e with e
      have e : g = g' := e
      omega
    have HRD := Lib.hid (RowOf.reads (((HO9.out.far (p := ⟨W.heap.size + 1, 0, none⟩) hne (.int .i64 (m : Int))).far (p := ⟨W.heap.size + 1, 1, none⟩) hne (.int .i64 1)).far (p := ⟨W.heap.size + 1, 2, none⟩) hne (.slice (some ⟨g, 0, none⟩) m c')) csV_len)
    obtain ⟨g0, g1, g2, -⟩ := (HL9.out.blk (g := W.heap.size + 1 + 1) (t := 69) (List.mem_cons_self ..)).three
    have hb1 := HL9.out.blk (g := W.heap.size + 1) (t := 69) (List.mem_cons_of_mem _ (List.mem_cons_self ..))
    obtain ⟨z0, z1, z2, f0', f1, f2⟩ := hb1.three
    have HB1 := Lib.hid hb1
    clear hb1 hne hlm hp
    go_upto_region 99 with fail
    clear g0 g1 g2 z0 z1 z2 f0' f1 f2
    obtain ⟨q0, q1, q2, -⟩ := (HB1.out.three_set (.int .i64 (m : Int)) (.int .i64 1) (.slice (some ⟨g, 0, none⟩) m c')).1.three
    refine bodyPost_ret (v := gV m 1 (some ⟨g, 0, none⟩) m c') (by simp [results, Tryz.results90, go_sem, q0, q1, q2]) rfl ⟨g, c', rfl, HRD.out, by omega, below_three HL9.out.bel (by omega) _ _ _⟩
end Go.Proofs.YtllhefjblipddaaGreatDoor

namespace Go.Proofs.YtllhefjblipddaaGreatDoor
open Go.RowKit

/-- The first place below R where a test holds, or -1. -/
def Fst (R : Nat) (p : Nat → Bool) (r : Int) : Prop := (r = -1 ∧ ∀ i, i < R → p i = false) ∨ ∃ i : Nat, r = (i : Int) ∧ i < R ∧ p i = true ∧ ∀ j, j < i → p j = false
/-- Whether a number of the list is equal to a number. -/
noncomputable def eqF (v : Nat → Nat) (s d : ByteArray) (i : Nat) : Bool := kCmp (nV (v i)) (qV s d) == 0
set_option maxRecDepth 100000 in
set_option maxHeartbeats 4000000 in
theorem eq1_any (s1 d1 s2 d2 : ByteArray) (W : World) (he : VEnv W) (h1 : GN s1 d1) (h2 : GN s2 d2) (pb vb : Nat) (hp : Blk W pb 4 #[.bool false]) (hv : Blk W vb 27 #[.int .i64 1, .string s2, .string d2, .string ⟨#[]⟩, .bool false, .int .i64 0, .int .i64 0, .int .i64 0, .slice none 0 0]) :
    Calls Tryz.prog 167 #[.agg #[.int .i64 1, .string s1, .string d1, .string ⟨#[]⟩, .bool false, .int .i64 0, .int .i64 0, .int .i64 0, .slice none 0 0], .pointer (some ⟨pb, 0, none⟩), .pointer (some ⟨vb, 0, none⟩)] W fun e w' => e = .returned (.bool (kCmp (qV s1 d1) (qV s2 d2) == 0)) ∧ Below W.heap.size W w' := by
  have HCM := Lib.hid fun W' (hW : Below W.heap.size W W') => cmpf_n s1 d1 s2 d2 W' (he.below hW) h1 h2
  generalize kCmp (qV s1 d1) (qV s2 d2) = z at *
  have HB0 := Lib.hid (below_al W (.cells #[.int .i64 1, .string s1, .string d1, .string ⟨#[]⟩, .bool false, .int .i64 0, .int .i64 0, .int .i64 0, .slice none 0 0] 27))
  have p0 := (hp.later HB0.out).cell 0
  simp only [List.getElem?_toArray, List.getElem?_cons_succ, List.getElem?_cons_zero] at p0
  obtain ⟨y0, y1, y2, y3, y4, y5, y6, y7, y8⟩ := (hv.later HB0.out).nine
  obtain ⟨x0, x1, x2, x3, x4, x5, x6, x7, x8⟩ := (Blk.new W 27 #[.int .i64 1, .string s1, .string d1, .string ⟨#[]⟩, .bool false, .int .i64 0, .int .i64 0, .int .i64 0, .slice none 0 0]).nine
  clear he h1 h2 hp hv
  go_enter Tryz.func167, Tryz.ntmps167
  go_wp2_with (go_at_call 168; (with_reducible refine (HCM.out _ HB0.out).mono ?_); rintro e w2 ⟨rfl, hb⟩; have HB2 := Lib.hid (HB0.out.trans (hb.mono HB0.out.size)); clear hb)
  go_ret
  exact ⟨rfl, HB2.out⟩
set_option maxRecDepth 100000 in
set_option maxHeartbeats 4000000 in
theorem index_any (R : Nat) (b o cc : Nat) (v : Nat → Nat) (s d : ByteArray) (W : World) (he : VEnv W) (hR : R ≤ 1000) (hv : ∀ i, i < R → v i ≤ 1000) (hU : Reads 9 csV W (.slice (some ⟨b, o, none⟩) R cc) (nVs R v)) (h2 : GN s d) (pb vb : Nat) (hp : Blk W pb 4 #[.bool false]) (hvb : Blk W vb 27 #[.int .i64 1, .string s, .string d, .string ⟨#[]⟩, .bool false, .int .i64 0, .int .i64 0, .int .i64 0, .slice none 0 0]) :
    Calls Tryz.prog 135 #[.slice (some ⟨b, o, none⟩) R cc, .func (.func 167) #[] #[.pointer (some ⟨pb, 0, none⟩), .pointer (some ⟨vb, 0, none⟩)]] W fun e w' => ∃ r : Int, e = .returned (.int .i64 r) ∧ Fst R (eqF v s d) r ∧ Below W.heap.size W w' := by
  have HEQ := Lib.hid (show ∀ i W', i < R → Below W.heap.size W W' → Calls Tryz.prog 167 #[.agg #[.int .i64 1, .string (nt (v i)), .string ⟨#[49]⟩, .string ⟨#[]⟩, .bool false, .int .i64 0, .int .i64 0, .int .i64 0, .slice none 0 0], .pointer (some ⟨pb, 0, none⟩), .pointer (some ⟨vb, 0, none⟩)] W' fun e w' => e = .returned (.bool (eqF v s d i)) ∧ Below W'.heap.size W' w' from fun i W' hi hW => eq1_any (nt (v i)) ⟨#[49]⟩ s d W' (he.below hW) (gn_nV (v i) (hv i hi)) h2 pb vb (hp.later hW) (hvb.later hW))
  have HCE := Lib.hid (show ∀ i, i < R → ∀ W', Below W.heap.size W W' → _ from fun i hi => (nv_at (x := v i) (by have h := reads_part hU (by omega) i 1 (cc - i) (by omega) (by have := reads_cap hU; omega); rw [nVs_at hi] at h; exact h)).2)
  clear he hv hU h2 hp hvb
  go_enter Tryz.func135, Tryz.ntmps135
  go_upto_block 0 with fail
  go_cut [8] (fun u8 wz => Hid (Below W.heap.size W wz) ∧ Hid (∀ i, i < R → eqF v s d i = false))
  case first =>
    go_wp2_with fail
    go_loopw [8] (fun u8 wz => ∃ i : Nat, i ≤ R ∧ u8 = .int .i64 (i : Int) ∧ Hid (Below W.heap.size W wz) ∧ Hid (∀ j, j < i → eqF v s d j = false)) (fun u _ => R - (intOf u).toNat)
    case atStart => exact ⟨0, by omega, rfl, Lib.hid (Below.refl _ _), Lib.hid (fun j hj => absurd hj (by omega))⟩
    case round =>
      obtain ⟨i, hi, rfl, HB, HN⟩ := hrel
      by_cases hlt : i < R
      · have hlz : (i : Int) < (R : Int) := by omega
        have i0 : 0 ≤ (i : Int) := by omega
        have i1 : IntKind.i64.wrap ((i : Int) + 1) = (i : Int) + 1 := IntWalk.i64_in _ (by omega)
        obtain ⟨e0, e1, e2, e3, e4, e5, e6, e7, e8⟩ := HCE.out i hlt wr HB.out
        have HEI := Lib.hid (HEQ.out i wr hlt HB.out)
        obtain ⟨bb, hbb⟩ : ∃ bb, bb = eqF v s d i := ⟨_, rfl⟩
        rw [← hbb] at HEI
        have HBB := Lib.hid hbb
        clear hbb
        cases bb
        · go_wp2_with (go_at_call 167; (with_reducible refine HEI.out.mono ?_); rintro e w2 ⟨rfl, hb⟩; have HB2 := Lib.hid (HB.out.trans (hb.mono HB.out.size)); clear hb)
          go_roundw
          case rel => exact ⟨i + 1, by omega, by go_num, HB2, Lib.hid (fun j hj => by
            rcases Nat.lt_or_ge j i with h | h
            · exact HN.out j h
            · rw [show j = i by omega]
              exact HBB.out.symm)⟩
          case measure => simp [intOf]; omega
        · go_wp2_with (go_at_call 167; (with_reducible refine HEI.out.mono ?_); rintro e w2 ⟨rfl, hb⟩; have HB2 := Lib.hid (HB.out.trans (hb.mono HB.out.size)); clear hb)
          (try simp only [Exit.inBlock, Exit.then])
          exact bodyPost_ret (v := .int .i64 (i : Int)) (by simp [results, Tryz.results135, go_sem]) rfl ⟨_, rfl, .inr ⟨i, rfl, hlt, HBB.out.symm, HN.out⟩, HB2.out⟩
      · obtain rfl : i = R := by omega
        go_wp2_with fail
        go_meet
        exact ⟨HB, HN⟩
  case rest =>
    obtain ⟨HB, HN⟩ := hcut
    go_wp2_with fail
    go_ret
    exact ⟨_, rfl, .inl ⟨rfl, HN.out⟩, HB.out⟩
set_option maxRecDepth 100000 in
set_option maxHeartbeats 4000000 in
theorem equal_any (R : Nat) (b o cc : Nat) (v : Nat → Nat) (s d : ByteArray) (pt : Bool) (W : World) (he : VEnv W) (hR : R ≤ 1000) (hv : ∀ i, i < R → v i ≤ 1000) (hU : Reads 9 csV W (.slice (some ⟨b, o, none⟩) R cc) (nVs R v)) (h2 : GN s d) :
    Calls Tryz.prog 129 #[.slice (some ⟨b, o, none⟩) R cc, .agg #[.int .i64 1, .string s, .string d, .string ⟨#[]⟩, .bool false, .int .i64 0, .int .i64 0, .int .i64 0, .slice none 0 0], .bool pt] W fun e w' => ∃ r : Int, e = .returned (.int .i64 r) ∧ Fst R (eqF v s d) r ∧ Below W.heap.size W w' := by
  have hmf : ∀ (fn : Fn) (first cap : Array Value) (w : World), (Instr.makeFunc fn first cap).run Tryz.prog w = .ok (.func fn first cap) w := fun _ _ _ _ => rfl
  have HL0 := Lib.hid (((Loc.start W).alloc' rfl 27 #[.int .i64 1, .string s, .string d, .string ⟨#[]⟩, .bool false, .int .i64 0, .int .i64 0, .int .i64 0, .slice none 0 0]).alloc' (g := W.heap.size + 1) (by simp) 4 #[.bool pt])
  have HIX := Lib.hid fun W' (hW : Below W.heap.size W W') pb vb hp hvb => index_any R b o cc v s d W' (he.below hW) hR hv (hU.below hW) h2 pb vb hp hvb
  clear he hv hU h2
  go_enter Tryz.func129, Tryz.ntmps129
  go_upto_region 1 with fail
  revert HL0
  generalize (W.alloc (.cells #[.int .i64 1, .string s, .string d, .string ⟨#[]⟩, .bool false, .int .i64 0, .int .i64 0, .int .i64 0, .slice none 0 0] 27)).alloc (.cells #[.bool pt] 4) = W1
  intro HL0
  have hpb := HL0.out.blk (g := W.heap.size + 1) (t := 4) (cs := #[.bool pt]) (List.mem_cons_self ..)
  have hvb := HL0.out.blk (g := W.heap.size) (t := 27) (cs := #[.int .i64 1, .string s, .string d, .string ⟨#[]⟩, .bool false, .int .i64 0, .int .i64 0, .int .i64 0, .slice none 0 0]) (List.mem_cons_of_mem _ (List.mem_cons_self ..))
  have p0 := hpb.cell 0
  have f0 := hpb.frozen 0
  have v0 := hvb.cell 0
  simp only [List.getElem?_toArray, List.getElem?_cons_succ, List.getElem?_cons_zero] at p0 v0
  have HL1 := Lib.hid (HL0.out.set1 (i := 0) (one_ne (by omega)) (.bool false))
  have HPB := Lib.hid (show Blk (W1.setCell ⟨W.heap.size + 1, 0, none⟩ (.bool false)) (W.heap.size + 1) 4 #[.bool false] from HL1.out.blk (g := W.heap.size + 1) (t := 4) (cs := #[.bool false]) (List.mem_cons_self ..))
  have HVB := Lib.hid (HL1.out.blk (g := W.heap.size) (t := 27) (cs := #[.int .i64 1, .string s, .string d, .string ⟨#[]⟩, .bool false, .int .i64 0, .int .i64 0, .int .i64 0, .slice none 0 0]) (List.mem_cons_of_mem _ (List.mem_cons_self ..)))
  have HB1 := Lib.hid HL1.out.bel
  clear HL0 HL1 hpb hvb
  cases pt
  all_goals
    go_upto_region 2 with fail
    clear p0 f0 v0
    revert HPB HVB HB1
    generalize W1.setCell ⟨W.heap.size + 1, 0, none⟩ (.bool false) = w2
    intro HPB HVB HB1
    have HI := Lib.hid (HIX.out w2 HB1.out (W.heap.size + 1) W.heap.size HPB.out HVB.out)
    go_upto_region 99 with (go_at_call 135; (with_reducible refine HI.out.mono ?_); rintro e w3 ⟨r, rfl, hr, hb⟩; have HRR := Lib.hid hr; have HB3 := Lib.hid (HB1.out.trans (hb.mono HB1.out.size)); clear hr hb)
    exact bodyPost_ret (v := .int .i64 r) (by simp [results, Tryz.results129, go_sem]) rfl ⟨r, rfl, HRR.out, HB3.out⟩
end Go.Proofs.YtllhefjblipddaaGreatDoor

namespace Go.Proofs.YtllhefjblipddaaGreatDoor
open Go.RowKit

set_option maxRecDepth 100000 in
set_option maxHeartbeats 4000000 in
theorem line_c (R : Nat) (A : Option Addr) (n cc : Nat) (W : World) : Calls Tryz.prog 79 #[aV (R : Int) 1 A n cc] W fun e w' => e = .returned (.slice A n cc) ∧ Below W.heap.size W w' := by
  have HL0 := Lib.hid ((Loc.start W).alloc' rfl 27 #[.int .i64 5, .string ⟨#[]⟩, .string ⟨#[]⟩, .string ⟨#[]⟩, .bool false, .int .i64 0, .int .i64 (R : Int), .int .i64 1, .slice A n cc])
  go_enter Tryz.func79, Tryz.ntmps79
  go_upto_region 2 with (go_at_call 38; (with_reducible refine (grid_a _ _ _ _ _ _).mono ?_); rintro e w2 ⟨rfl, hb⟩; have HL1 := Lib.hid (HL0.out.step hb); clear hb)
  have HL2 := Lib.hid (HL1.out.step (below_al w2 (.cells #[.int .i64 (R : Int), .int .i64 1, .slice A n cc] 69)))
  have HX := Lib.hid (Blk.new w2 69 #[.int .i64 (R : Int), .int .i64 1, .slice A n cc])
  revert HL2 HX
  generalize w2.alloc (.cells #[.int .i64 (R : Int), .int .i64 1, .slice A n cc] 69) = w3
  intro HL2 HX
  obtain ⟨g0, g1, g2, -⟩ := HX.out.three
  rcases Nat.lt_or_ge 1 R with h | h
  all_goals
    first
      | (have hz : (1 : Int) < (R : Int) := by omega)
      | (have hz : ¬ (1 : Int) < (R : Int) := by omega)
    clear h
    go_upto_region 3 with (go_at_call 81; (with_reducible refine (stop_f _ _).mono ?_); rintro e wq ⟨rfl, rfl⟩)
    go_wp2_with fail
    go_ret
    exact ⟨rfl, HL2.out.bel⟩
set_option maxRecDepth 100000 in
set_option maxHeartbeats 4000000 in
theorem wanted_b (W0 W : World) (q : Nat) (A : Option Addr) (n c k : Nat) (avs : List Vl) (s d : ByteArray) (h0 : Below W0.heap.size W0 W) (hq0 : W0.heap.size ≤ q) (hq : Blk W q 90 #[.slice A n c, .int .i64 (k : Int)]) (hA : Reads 9 csV W0 (.slice A n c) avs) (hk : k < n) (hn : n ≤ 1000) (hu : avs[k]! = qV s d) :
    Calls Tryz.prog 76 #[.pointer (some ⟨q, 0, none⟩)] W fun e w' => e = .returned (.agg #[.int .i64 1, .string s, .string d, .string ⟨#[]⟩, .bool false, .int .i64 0, .int .i64 0, .int .i64 0, .slice none 0 0]) ∧ Blk w' q 90 #[.slice A n c, .int .i64 ((k : Int) + 1)] ∧ Below W0.heap.size W0 w' ∧ Chg W.heap.size [q] W w' := by
  have HV := Lib.hid (value_b W0 (W.alloc (.cells #[.int .i64 0, .string ⟨#[]⟩, .string ⟨#[]⟩, .string ⟨#[]⟩, .bool false, .int .i64 0, .int .i64 0, .int .i64 0, .slice none 0 0] 27)) q A n c k avs (h0.trans ((below_al W _).mono h0.size)) hq0 (hq.alloc _) hA hk hn)
  rw [hu] at HV
  have HV := Lib.hid (show Calls Tryz.prog 39 #[.pointer (some ⟨q, 0, none⟩)] (W.alloc (.cells #[.int .i64 0, .string ⟨#[]⟩, .string ⟨#[]⟩, .string ⟨#[]⟩, .bool false, .int .i64 0, .int .i64 0, .int .i64 0, .slice none 0 0] 27)) fun e w' => e = .returned (.agg #[.int .i64 1, .string s, .string d, .string ⟨#[]⟩, .bool false, .int .i64 0, .int .i64 0, .int .i64 0, .slice none 0 0]) ∧ Blk w' q 90 #[.slice A n c, .int .i64 ((k : Int) + 1)] ∧ Below W0.heap.size W0 w' ∧ Chg (W.alloc (.cells #[.int .i64 0, .string ⟨#[]⟩, .string ⟨#[]⟩, .string ⟨#[]⟩, .bool false, .int .i64 0, .int .i64 0, .int .i64 0, .slice none 0 0] 27)).heap.size [q] (W.alloc (.cells #[.int .i64 0, .string ⟨#[]⟩, .string ⟨#[]⟩, .string ⟨#[]⟩, .bool false, .int .i64 0, .int .i64 0, .int .i64 0, .slice none 0 0] 27)) w' from HV.out)
  obtain ⟨t, ht⟩ : ∃ t, t = W.heap.size := ⟨_, rfl⟩
  have HRz := Lib.hid (Blk.new W 27 #[.int .i64 0, .string ⟨#[]⟩, .string ⟨#[]⟩, .string ⟨#[]⟩, .bool false, .int .i64 0, .int .i64 0, .int .i64 0, .slice none 0 0])
  rw [← ht] at HRz
  have hqt : q < t := by have := hq.lt; omega
  have htq : t ∉ [q] := fun h => by
    rw [List.mem_singleton] at h
    omega
  have HTQ := Lib.hid htq
  have HTS := Lib.hid (show t < (W.alloc (.cells #[.int .i64 0, .string ⟨#[]⟩, .string ⟨#[]⟩, .string ⟨#[]⟩, .bool false, .int .i64 0, .int .i64 0, .int .i64 0, .slice none 0 0] 27)).heap.size from by rw [ht]; simp)
  have HH := Lib.hid ht
  have HSZ := Lib.hid h0.size
  clear htq h0 hq hA hu
  go_enter Tryz.func76, Tryz.ntmps76
  go_upto_region 1 with fail
  rw [← ht]
  clear ht
  go_upto_region 2 with (go_at_call 39; (with_reducible refine HV.out.mono ?_); rintro e w1 ⟨rfl, hq1, hb, hc⟩; have HQ1 := Lib.hid hq1; have HB1 := Lib.hid hb; have HC1 := Lib.hid ((Chg.of (below_al W _) [q]).next hc); have HRa := Lib.hid (hc.blk HRz.out HTS.out HTQ.out); clear hq1 hb hc HRz)
  have hba := below_al w1 (.cells #[.int .i64 1, .string s, .string d, .string ⟨#[]⟩, .bool false, .int .i64 0, .int .i64 0, .int .i64 0, .slice none 0 0] 27)
  have HX3 := Lib.hid (Blk.new w1 27 #[.int .i64 1, .string s, .string d, .string ⟨#[]⟩, .bool false, .int .i64 0, .int .i64 0, .int .i64 0, .slice none 0 0])
  have HQ3 := Lib.hid (HQ1.out.later hba)
  have HB3 := Lib.hid (HB1.out.trans (hba.mono HB1.out.size))
  have HC3 := Lib.hid (HC1.out.next (Chg.of hba [q]))
  have HRc := Lib.hid (HRa.out.later hba)
  have HXT := Lib.hid (show w1.heap.size ≠ t from by have := HRa.out.lt; omega)
  clear HQ1 HB1 HC1 HRa hba
  revert HX3 HQ3 HB3 HC3 HRc HXT
  generalize w1.alloc (.cells #[.int .i64 1, .string s, .string d, .string ⟨#[]⟩, .bool false, .int .i64 0, .int .i64 0, .int .i64 0, .slice none 0 0] 27) = w3
  generalize w1.heap.size = X
  intro HX3 HQ3 HB3 HC3 HRc HXT
  obtain ⟨x0, x1, x2, x3, x4, x5, x6, x7, x8⟩ := HX3.out.nine
  obtain ⟨f0, f1, f2, f3, f4, f5, f6, f7, f8⟩ := HRc.out.ninef
  obtain ⟨z0, z1, z2, z3, z4, z5, z6, z7, z8⟩ := HRc.out.nine
  go_upto_region 99 with (go_at_call 81; (with_reducible refine (stop_f _ _).mono ?_); rintro e wq ⟨rfl, rfl⟩)
  clear x0 x1 x2 x3 x4 x5 x6 x7 x8 f0 f1 f2 f3 f4 f5 f6 f7 f8 z0 z1 z2 z3 z4 z5 z6 z7 z8
  obtain ⟨q0, q1, q2, q3, q4, q5, q6, q7, q8⟩ := (HRc.out.nine_set (.int .i64 1) (.string s) (.string d) (.string ⟨#[]⟩) (.bool false) (.int .i64 0) (.int .i64 0) (.int .i64 0) (.slice none 0 0)).1.nine
  have hcn := chg_nine w3 t (.int .i64 1) (.string s) (.string d) (.string ⟨#[]⟩) (.bool false) (.int .i64 0) (.int .i64 0) (.int .i64 0) (.slice none 0 0)
  have hqt' : q ∉ [t] := fun h => by
    rw [List.mem_singleton] at h
    omega
  have hH := HH.out
  have hsz := HSZ.out
  refine bodyPost_ret (v := .agg #[.int .i64 1, .string s, .string d, .string ⟨#[]⟩, .bool false, .int .i64 0, .int .i64 0, .int .i64 0, .slice none 0 0]) (by simp [results, Tryz.results76, go_sem, q0, q1, q2, q3, q4, q5, q6, q7, q8]) rfl ⟨rfl, hcn.blk HQ3.out HQ3.out.lt hqt', HB3.out.trans (hcn.below HB3.out.size fun x hx => by rw [List.mem_singleton.1 hx]; omega), HC3.out.trans (hcn.mono HC3.out.size fun x hx => .inr (by rw [List.mem_singleton.1 hx]; omega))⟩
set_option maxRecDepth 100000 in
set_option maxHeartbeats 4000000 in
theorem wor_k (dd : Int) (W0 W : World) (q : Nat) (A : Option Addr) (n c i k : Nat) (avs : List Vl) (h0 : Below W0.heap.size W0 W) (hq0 : W0.heap.size ≤ q) (hq : Blk W q 90 #[.slice A n c, .int .i64 (i : Int)]) (hA : Reads 9 csV W0 (.slice A n c) avs) (hi : i < n) (hn : n ≤ 1000) (hu : avs[i]! = nV k) (he : VEnv W0) (hk : k ≤ 1000) : Calls Tryz.prog 77 #[.pointer (some ⟨q, 0, none⟩), .int .i64 dd] W fun e w' => e = .returned (.int .i64 (k : Int)) ∧ Blk w' q 90 #[.slice A n c, .int .i64 ((i : Int) + 1)] ∧ Below W0.heap.size W0 w' ∧ Chg W.heap.size [q] W w' := by
  have HM := Lib.hid (more_any q A n c i W hq true (by simp [hi]))
  have HWH := Lib.hid fun W' (hb : Below W.heap.size W W') => whole_b W0 W' q A n c i k avs (h0.trans (hb.mono h0.size)) hq0 (hq.later hb) hA hi hn hu he hk
  clear h0 hq hA hu he
  go_enter Tryz.func77, Tryz.ntmps77
  go_wp2_with (first
    | (go_at_call 82; (with_reducible refine HM.out.mono ?_); rintro e w1 ⟨rfl, hb⟩; have HB := Lib.hid hb; clear hb)
    | (go_at_call 83; (with_reducible refine (HWH.out _ HB.out).mono ?_); rintro e w2 ⟨rfl, hq1, hb, hc⟩; have HQ1 := Lib.hid hq1; have HB1 := Lib.hid hb; have HC1 := Lib.hid ((Chg.of HB.out [q]).next hc); clear hq1 hb hc))
  go_ret
  exact ⟨rfl, HQ1.out, HB1.out, HC1.out⟩
set_option maxRecDepth 100000 in
set_option maxHeartbeats 4000000 in
theorem pos_any (R : Nat) (b o cc : Nat) (v : Nat → Nat) (s d : ByteArray) (W : World) (he : VEnv W) (hR : R ≤ 1000) (hv : ∀ i, i < R → v i ≤ 1000) (hU : Reads 9 csV W (.slice (some ⟨b, o, none⟩) R cc) (nVs R v)) (h2 : GN s d) (hex : ∃ i, i < R ∧ eqF v s d i = true) :
    Calls Tryz.prog 78 #[.slice (some ⟨b, o, none⟩) R cc, .agg #[.int .i64 1, .string s, .string d, .string ⟨#[]⟩, .bool false, .int .i64 0, .int .i64 0, .int .i64 0, .slice none 0 0], .int .i64 0] W fun e w' => ∃ i : Nat, e = .returned (.int .i64 (i : Int)) ∧ i < R ∧ eqF v s d i = true ∧ Below W.heap.size W w' := by
  have HEQ := Lib.hid fun W' (hW : Below W.heap.size W W') => equal_any R b o cc v s d true W' (he.below hW) hR hv (hU.below hW) h2
  have HEX := Lib.hid hex
  have HL0 := Lib.hid ((Loc.start W).alloc' rfl 27 #[.int .i64 1, .string s, .string d, .string ⟨#[]⟩, .bool false, .int .i64 0, .int .i64 0, .int .i64 0, .slice none 0 0])
  obtain ⟨x0, x1, x2, x3, x4, x5, x6, x7, x8⟩ := (HL0.out.blk (g := W.heap.size) (t := 27) (cs := #[.int .i64 1, .string s, .string d, .string ⟨#[]⟩, .bool false, .int .i64 0, .int .i64 0, .int .i64 0, .slice none 0 0]) (List.mem_cons_self ..)).nine
  clear he hv hU h2 hex
  go_enter Tryz.func78, Tryz.ntmps78
  go_upto_region 10 with (go_at_call 129; (with_reducible refine (HEQ.out _ HL0.out.bel).mono ?_); rintro e w2 ⟨r, rfl, hr, hb⟩; have HRR := Lib.hid hr; have HL1 := Lib.hid (HL0.out.step hb); clear hr hb x0 x1 x2 x3 x4 x5 x6 x7 x8)
  obtain ⟨i, rfl, hi, hp⟩ : ∃ i : Nat, r = (i : Int) ∧ i < R ∧ eqF v s d i = true := by
    rcases HRR.out with ⟨-, hn⟩ | ⟨i, h1, h2, h3, -⟩
    · obtain ⟨i, hi, hp⟩ := HEX.out
      rw [hn i hi] at hp
      cases hp
    · exact ⟨i, h1, h2, h3⟩
  have HPP := Lib.hid hp
  have hz : decide ((i : Int) < 0) = false := decide_eq_false (by omega)
  have hz2 : ¬ (i : Int) < 0 := by omega
  clear hp HRR HEX
  go_upto_region 99 with (go_at_call 81; (try rw [hz]); (with_reducible refine (stop_f _ _).mono ?_); rintro e wq ⟨rfl, rfl⟩)
  exact bodyPost_ret (v := .int .i64 (i : Int)) (by simp [results, Tryz.results78, go_sem]) rfl ⟨i, rfl, hi, HPP.out, HL1.out.bel⟩
set_option maxRecDepth 100000 in
set_option maxHeartbeats 4000000 in
theorem found_any (R : Nat) (b o cc : Nat) (v : Nat → Nat) (s d : ByteArray) (W : World) (he : VEnv W) (hR : R ≤ 1000) (hv : ∀ i, i < R → v i ≤ 1000) (hU : Reads 9 csV W (.slice (some ⟨b, o, none⟩) R cc) (nVs R v)) (h2 : GN s d) :
    Calls Tryz.prog 80 #[.slice (some ⟨b, o, none⟩) R cc, .agg #[.int .i64 1, .string s, .string d, .string ⟨#[]⟩, .bool false, .int .i64 0, .int .i64 0, .int .i64 0, .slice none 0 0], .int .i64 0] W fun e w' => ∃ r : Int, e = .returned (.int .i64 r) ∧ Fst R (eqF v s d) r ∧ Below W.heap.size W w' := by
  have HEQ := Lib.hid fun W' (hW : Below W.heap.size W W') => equal_any R b o cc v s d false W' (he.below hW) hR hv (hU.below hW) h2
  have HL0 := Lib.hid ((Loc.start W).alloc' rfl 27 #[.int .i64 1, .string s, .string d, .string ⟨#[]⟩, .bool false, .int .i64 0, .int .i64 0, .int .i64 0, .slice none 0 0])
  obtain ⟨x0, x1, x2, x3, x4, x5, x6, x7, x8⟩ := (HL0.out.blk (g := W.heap.size) (t := 27) (cs := #[.int .i64 1, .string s, .string d, .string ⟨#[]⟩, .bool false, .int .i64 0, .int .i64 0, .int .i64 0, .slice none 0 0]) (List.mem_cons_self ..)).nine
  clear he hv hU h2
  go_enter Tryz.func80, Tryz.ntmps80
  go_upto_region 99 with (go_at_call 129; (with_reducible refine (HEQ.out _ HL0.out.bel).mono ?_); rintro e w2 ⟨r, rfl, hr, hb⟩; have HRR := Lib.hid hr; have HL1 := Lib.hid (HL0.out.step hb); clear hr hb x0 x1 x2 x3 x4 x5 x6 x7 x8)
  exact bodyPost_ret (v := .int .i64 r) (by simp [results, Tryz.results80, go_sem]) rfl ⟨r, rfl, HRR.out, HL1.out.bel⟩
end Go.Proofs.YtllhefjblipddaaGreatDoor
