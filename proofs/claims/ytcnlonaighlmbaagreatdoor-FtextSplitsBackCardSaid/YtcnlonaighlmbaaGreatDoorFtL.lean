/- value.Lift, where no argument is applied item by item; answers of any kind. -/
import Derived.Test.YtcnlonaighlmbaaGreatDoorFtS
set_option linter.unusedSimpArgs false
set_option linter.unusedVariables false
namespace Go.Proofs.YtcnlonaighlmbaaGreatDoor
open Go.RowKit

theorem trim_sa (s : ByteArray) (h : (⟨(Lib.trimS s.data.toList [115, 97]).toArray⟩ : ByteArray) = ⟨#[]⟩) (hs : s.size ≤ 100) (w : World) :
    Calls Tryz.prog 102 #[.string s, .string ⟨#[115, 97]⟩] w fun e w' => e = .returned (.string ⟨#[]⟩) ∧ Below w.heap.size w w' := by
  have := Any.strings_Trim_laid Tryz.lays160 (by kernel_rfl) s ⟨#[115, 97]⟩ w (by omega) (by decide) (ascii_of_all (by decide))
  rw [← h]
  exact this
/-- Nothing is appended. -/
theorem app_none (w : World) (g x : Option Addr) (n c xc : Nat) (h : n ≤ c) : (Builtin.append_ #[24, 24] 24 #[.slice g n c, .slice x 0 xc]).run Tryz.prog w = .ok (.slice g n c) w := by
  obtain ⟨i0, hi, hz0, hz1, hz2⟩ := info_parts val_info
  have hl : ∀ (x : Addr), (loadCells x 0).run Tryz.prog w = .ok #[] w := fun x => by simpa using run_loadCells_list (P := Tryz.prog) w x [] (by simp)
  cases g <;> cases x <;> simp [Builtin.append_, run_underlying Tryz.underlying24, Builtin.lenOf, Builtin.firstCells, sizeOf, typeInfo, hi, storeCells, hl, h]
/-- The same at a list. -/
theorem wp_app0 {ops : Array Oper} {rest : List Oper} {o : Oper} {a : Act} {Q : Exit → Act → World → Prop} {w : World} (hgd : o.guard = none) (s x : Operand) (ho : o.op = .call { callee := .builtin .append, args := #[s, x], argTypes := #[24, 24] }) (hty : o.type = 24) (g y : Option Addr) (n c xc : Nat) (hs : a.eval s = .slice g n c) (hx : a.eval x = .slice y 0 xc) (hn : n ≤ c) (h : wpList Tryz.prog ops Q rest (a.put o.dst (.slice g n c)) w) : wpList Tryz.prog ops Q (o :: rest) a w :=
  wpList_plain hgd fun _ hK => by
    unfold Oper.wp execOp
    simp only [ho, hty, resolve, invoke, builtin, Sem.run_bind, Sem.run_pure, Result.andThen_ok, List.map_toArray, List.map_cons, List.map_nil, hs, hx, app_none w g y n c xc hn]
    exact hK _ _ h
set_option maxRecDepth 100000 in
set_option maxHeartbeats 8000000 in
theorem lift_g (W : World) (kinds : ByteArray) (A : Option Addr) (n c x : Nat) (avs : List Vl) (Φ : Vl → List Vl → Prop) (hΦ : ∀ h us, Φ h us → HdOk h us) (hA : Reads 9 csV W (.slice A n c) avs) (hn1 : 1 ≤ n) (hn2 : n ≤ 255) (hk0 : kinds.toList.isEmpty = false)
    (hTR : ∀ W', Calls Tryz.prog 102 #[.string kinds, .string ⟨#[115, 97]⟩] W' fun e w' => e = .returned (.string ⟨#[]⟩) ∧ Below W'.heap.size W' w')
    (hLT : ∀ i, i < n → ∃ l : Int, (∀ W', Calls Tryz.prog 103 #[.string kinds, .int .i64 (i : Int)] W' fun e w' => e = .returned (.int .u8 l) ∧ W' = w') ∧ (l = 115 → ¬ avs[i]!.k = 5))
    (hCK : ∀ i, i < n → ∀ W', Below W.heap.size W W' → Calls Tryz.prog 28 #[avs[i]!.v] W' fun e w' => e = .returned (.int .i64 0) ∧ Below W'.heap.size W' w')
    (hF : ∀ W1 A1 c1, Below W.heap.size W W1 → Reads 9 csV W1 (.slice A1 n c1) avs → Calls Tryz.prog 47 #[.slice A1 n c1, .pointer (some ⟨x, 0, none⟩)] W1 (ResG W W1 [] Φ))
    (hVD : ∀ (k : Int) (num den text : ByteArray) (on : Bool) (code rr rc : Int) (A2 : Option Addr) (n2 c2 : Nat) (us : List Vl) W', Below W.heap.size W W' → Φ ⟨k, num, den, text, on, code, rr, rc, none, 0, 0⟩ us → Reads 9 csV W' (.slice A2 n2 c2) us → Calls Tryz.prog 18 #[.agg #[.int .i64 k, .string num, .string den, .string text, .bool on, .int .i64 code, .int .i64 rr, .int .i64 rc, .slice A2 n2 c2]] W' fun e w' => e = .returned (.agg #[.int .i64 k, .string num, .string den, .string text, .bool on, .int .i64 code, .int .i64 rr, .int .i64 rc, .slice A2 n2 c2]) ∧ Below W'.heap.size W' w') :
    Calls Tryz.prog 46 #[.string kinds, .slice A n c, .func (.func 47) #[] #[.pointer (some ⟨x, 0, none⟩)]] W fun e w' => ∃ (k : Int) (num den text : ByteArray) (on : Bool) (code rr rc : Int) (A2 : Option Addr) (n2 c2 : Nat) (us : List Vl), e = .returned (.tuple #[.agg #[.int .i64 k, .string num, .string den, .string text, .bool on, .int .i64 code, .int .i64 rr, .int .i64 rc, .slice A2 n2 c2], .int .i64 0]) ∧ Φ ⟨k, num, den, text, on, code, rr, rc, none, 0, 0⟩ us ∧ Reads 9 csV w' (.slice A2 n2 c2) us ∧ (n2 = 0 → A2 = none ∧ c2 = 0) ∧ (∀ b o, A2 = some ⟨b, o, none⟩ → W.heap.size ≤ b) ∧ Below W.heap.size W w' := by
  obtain ⟨b, o, rfl⟩ : ∃ b o, A = some ⟨b, o, none⟩ := by
    obtain ⟨A', c', e, -, -, h3⟩ := hA
    injection e with e1 e2 e3
    obtain ⟨b, o, e4, -⟩ := h3 (by omega)
    exact ⟨b, o, e1.trans e4⟩
  have HA := Lib.hid hA
  have HTR := Lib.hid hTR
  have HLT := Lib.hid hLT
  have HCK := Lib.hid hCK
  have HF := Lib.hid hF
  have HVD := Lib.hid hVD
  have HOK := Lib.hid hΦ
  clear hA hTR hLT hCK hF hVD hΦ
  have HL0 := Lib.hid ((Loc.start W).alloc' rfl 26 #[.int .i64 0, .string ⟨#[]⟩, .string ⟨#[]⟩, .string ⟨#[]⟩, .bool false, .int .i64 0, .int .i64 0, .int .i64 0, .slice none 0 0])
  go_enter Tryz.func46, Tryz.ntmps46
  go_upto_region 3 with (go_at_call 102; (with_reducible refine (HTR.out _).mono ?_); rintro e w1 ⟨rfl, hb⟩; have HL1 := Lib.hid (HL0.out.step hb); clear hb HL0)
  go_upto_block 0 with fail
  go_cut [29] (fun u29 wz => Hid (Loc W [(W.heap.size, 26, #[.int .i64 0, .string ⟨#[]⟩, .string ⟨#[]⟩, .string ⟨#[]⟩, .bool false, .int .i64 0, .int .i64 0, .int .i64 0, .slice none 0 0])] wz))
  case first =>
    go_wp2_with fail
    go_loopw [29] (fun u29 wz => ∃ i : Nat, i ≤ n ∧ u29 = .int .i64 (i : Int) ∧ Hid (Loc W [(W.heap.size, 26, #[.int .i64 0, .string ⟨#[]⟩, .string ⟨#[]⟩, .string ⟨#[]⟩, .bool false, .int .i64 0, .int .i64 0, .int .i64 0, .slice none 0 0])] wz)) (fun u _ => n - (intOf u).toNat)
    case atStart => exact ⟨0, by omega, rfl, HL1⟩
    case round =>
      clear HL1
      obtain ⟨i, hi, rfl, HL⟩ := hrel
      by_cases hlt : i < n
      · have hlz : (i : Int) < (n : Int) := by omega
        have i0 : 0 ≤ (i : Int) := by omega
        have i1 : IntKind.i64.wrap ((i : Int) + 1) = (i : Int) + 1 := IntWalk.i64_in _ (by omega)
        obtain ⟨uk, unum, uden, utext, uon, ucode, urows, ucols, uA, un, uc, hus', hcs⟩ := read_at HA.out hlt
        obtain ⟨e0, e1, e2, e3, e4, e5, e6, e7, e8⟩ := hcs wr HL.out.bel
        have HCi := Lib.hid (HCK.out i hlt _ (HL.out.step (below_al wr (.cells #[.int .i64 uk, .string unum, .string uden, .string utext, .bool uon, .int .i64 ucode, .int .i64 urows, .int .i64 ucols, .slice uA un uc] 26))).bel)
        rw [hus'] at HCi
        have HCi := Lib.hid (show Calls Tryz.prog 28 #[.agg #[.int .i64 uk, .string unum, .string uden, .string utext, .bool uon, .int .i64 ucode, .int .i64 urows, .int .i64 ucols, .slice uA un uc]] (wr.alloc (.cells #[.int .i64 uk, .string unum, .string uden, .string utext, .bool uon, .int .i64 ucode, .int .i64 urows, .int .i64 ucols, .slice uA un uc] 26)) fun e w' => e = .returned (.int .i64 0) ∧ Below (wr.alloc (.cells #[.int .i64 uk, .string unum, .string uden, .string utext, .bool uon, .int .i64 ucode, .int .i64 urows, .int .i64 ucols, .slice uA un uc] 26)).heap.size (wr.alloc (.cells #[.int .i64 uk, .string unum, .string uden, .string utext, .bool uon, .int .i64 ucode, .int .i64 urows, .int .i64 ucols, .slice uA un uc] 26)) w' from HCi.out)
        clear hcs hus'
        go_wp2_with (go_at_call 28; (with_reducible refine HCi.out.mono ?_); rintro e w2 ⟨rfl, hb⟩; have HL2 := Lib.hid ((HL.out.step (below_al wr (.cells #[.int .i64 uk, .string unum, .string uden, .string utext, .bool uon, .int .i64 ucode, .int .i64 urows, .int .i64 ucols, .slice uA un uc] 26))).step hb); clear hb HL e0 e1 e2 e3 e4 e5 e6 e7 e8)
        go_roundw
        case rel => exact ⟨i + 1, by omega, by go_num, HL2⟩
        case measure => simp [intOf]; omega
      · obtain rfl : i = n := by omega
        go_wp2_with fail
        go_meet
        exact HL
  case rest =>
    clear HL1
    have HL1 := hcut
    go_upto_block 2 with fail
    go_cut [11, 12, 42] (fun u11 u12 u42 wz => u11 = .int .i64 0 ∧ u12 = .int .i64 0 ∧ Hid (Loc W [(W.heap.size, 26, #[.int .i64 0, .string ⟨#[]⟩, .string ⟨#[]⟩, .string ⟨#[]⟩, .bool false, .int .i64 0, .int .i64 0, .int .i64 0, .slice none 0 0])] wz))
    case first =>
      go_wp2_with fail
      go_loopw [11, 12, 42] (fun u11 u12 u42 wz => ∃ i : Nat, i ≤ n ∧ u11 = .int .i64 0 ∧ u12 = .int .i64 0 ∧ u42 = .int .i64 (i : Int) ∧ Hid (Loc W [(W.heap.size, 26, #[.int .i64 0, .string ⟨#[]⟩, .string ⟨#[]⟩, .string ⟨#[]⟩, .bool false, .int .i64 0, .int .i64 0, .int .i64 0, .slice none 0 0])] wz)) (fun _ _ u _ => n - (intOf u).toNat)
      case atStart => exact ⟨0, by omega, rfl, rfl, rfl, HL1⟩
      case round =>
        clear HL1
        obtain ⟨i, hi, rfl, rfl, rfl, HL⟩ := hrel
        by_cases hlt : i < n
        · have hlz : (i : Int) < (n : Int) := by omega
          have i0 : 0 ≤ (i : Int) := by omega
          have i1 : IntKind.i64.wrap ((i : Int) + 1) = (i : Int) + 1 := IntWalk.i64_in _ (by omega)
          obtain ⟨uk, unum, uden, utext, uon, ucode, urows, ucols, uA, un, uc, hus', hcs⟩ := read_at HA.out hlt
          obtain ⟨e0, e1, e2, e3, e4, e5, e6, e7, e8⟩ := hcs wr HL.out.bel
          obtain ⟨l, hl1, hl2⟩ := HLT.out i hlt
          rw [hus'] at hl2
          have hl2 : l = 115 → ¬ uk = 5 := hl2
          have HLE := Lib.hid hl1
          have HL2 := Lib.hid (HL.out.step (below_al wr (.cells #[.int .i64 uk, .string unum, .string uden, .string utext, .bool uon, .int .i64 ucode, .int .i64 urows, .int .i64 ucols, .slice uA un uc] 26)))
          clear hcs hus' hl1
          by_cases hl : l = 115
          · have hk := hl2 hl
            subst hl
            clear hl2
            go_wp2_with (go_at_call 103; (with_reducible refine (HLE.out _).mono ?_); rintro e w2 ⟨rfl, rfl⟩)
            go_roundw
            case rel => exact ⟨i + 1, by omega, rfl, rfl, by go_num, HL2⟩
            case measure => simp [intOf]; omega
          · clear hl2
            go_wp2_with (go_at_call 103; (with_reducible refine (HLE.out _).mono ?_); rintro e w2 ⟨rfl, rfl⟩)
            go_roundw
            case rel => exact ⟨i + 1, by omega, rfl, rfl, by go_num, HL2⟩
            case measure => simp [intOf]; omega
        · obtain rfl : i = n := by omega
          go_wp2_with fail
          go_meet
          exact ⟨rfl, rfl, HL⟩
    case rest =>
      clear HL1
      obtain ⟨rfl, rfl, HL2⟩ := hcut
      go_upto_region 18 with fail
      have HAC := Lib.hid (HA.out.below HL2.out.bel)
      have hal : avs.length = n := (HA.out.lt (by omega)).1
      have HAL := Lib.hid hal
      rw [← hal] at HAC
      clear hal
      go_upto_region 19 with (first
        | (go_at_call 47; (with_reducible refine (HF.out _ _ _ HL3.out.bel HRD1.out).mono ?_); rintro e w2 ⟨k, num, den, text, on, code, rr, rc, A2, n2, c2, us, rfl, hP, hr, hf, hb⟩; have HP := Lib.hid hP; have HRD2 := Lib.hid hr; have hb := hb.below (Nat.le_refl _) (fun x hx => by cases hx); have HL4 := Lib.hid (HL3.out.step hb); clear hP hr hf hb HL3 HRD1)
        | (go_at_call 18; (with_reducible refine (HVD.out _ _ _ _ _ _ _ _ _ _ _ _ _ HL4.out.bel HP.out HRD2.out).mono ?_); rintro e w3 ⟨rfl, hb⟩; have HRD3 := Lib.hid (HRD2.out.below hb); have HL5 := Lib.hid (HL4.out.step hb); clear hb HL4 HRD2)
        | (at_builtin; refine wp_rowN 24 26 9 112 csV _ Tryz.underlying24 val_info rfl (by decide) csV_one rfl (.const (.slice none 0 0)) (.tmp 68) rfl wc.heap.size _ [] rfl (RowOf.nil _ _) avs b o c (by rw [HAL.out]; rfl) HAC.out (by rw [HAL.out]; omega) ?_ ?_ ?_ ?_; (rw [HAL.out]; simp; omega); (rw [HAL.out]; unfold maxLen; simp; omega); (exact Nat.le_refl _); intro v1 w1 ho1 hb1 hg1; have HL3 := Lib.hid (HL2.out.step hb1); have ho2 := RowOf.reads ho1 csV_len; rw [List.nil_append] at ho1 ho2; obtain ⟨g1, c1, hv1, -, -⟩ := ho1.form (by rw [HAL.out]; omega); subst hv1; rw [HAL.out] at ho2 ⊢; have HRD1 := Lib.hid ho2; clear ho1 ho2 hb1 hg1 HL2))
      have hul : us.length = n2 := by
        obtain ⟨A', c', e, -⟩ := HRD3.out
        injection e with e1 e2 e3
        exact e2.symm
      have hbig : n2 ≤ 100000 := by
        rcases HOK.out _ _ HP.out with ⟨-, h0⟩ | ⟨-, -, -, -, -, h0⟩
        · rw [h0] at hul
          have hul : 0 = n2 := hul
          omega
        · omega
      have HUL := Lib.hid hul
      clear hul
      have HRD4 := Lib.hid (HRD3.out.below (below_al w3 (.cells #[.int .i64 k, .string num, .string den, .string text, .bool on, .int .i64 code, .int .i64 rr, .int .i64 rc, .slice A2 n2 c2] 26)))
      obtain ⟨X, hX⟩ : ∃ X, X = w3.heap.size := ⟨_, rfl⟩
      have HL6 := Lib.hid (HL5.out.alloc' hX.symm 26 #[.int .i64 k, .string num, .string den, .string text, .bool on, .int .i64 code, .int .i64 rr, .int .i64 rc, .slice A2 n2 c2])
      have hXW : X ≠ W.heap.size := by
        have := HL5.out.lt (g := W.heap.size) (t := 26) (List.mem_cons_self ..)
        omega
      clear HRD3 HL5
      rw [← hX]
      revert HL6 HRD4
      generalize w3.alloc (.cells #[.int .i64 k, .string num, .string den, .string text, .bool on, .int .i64 code, .int .i64 rr, .int .i64 rc, .slice A2 n2 c2] 26) = W4
      intro HRD4 HL6
      clear hX
      have x8 : W4.cell? ⟨X, 8, none⟩ = some (.slice A2 n2 c2) := (HL6.out.blk (g := X) (t := 26) (List.mem_cons_self ..)).cell 8
      have hXlt := HL6.out.lt (g := X) (t := 26) (List.mem_cons_self ..)
      rcases Nat.eq_zero_or_pos n2 with hz | hp
      · subst hz
        have y8 := x8
        have f8 := (HL6.out.blk (g := X) (t := 26) (List.mem_cons_self ..)).frozen 8
        have hu0 : us = [] := List.length_eq_zero_iff.1 HUL.out
        subst hu0
        go_upto_region 20 with (at_builtin; refine wp_app0 rfl (.const (.slice none 0 0)) (.tmp 73) rfl rfl none A2 0 0 c2 rfl rfl (Nat.le_refl _) ?_)
        clear y8 f8 x8
        have HL8 := Lib.hid (HL6.out.set1 (i := 8) (fun y hy => by
          simp only [List.mem_cons, List.not_mem_nil, or_false] at hy
          subst hy
          exact fun e => hXW e.symm) (.slice none 0 0))
        clear HL6 HRD4
        revert HL8
        generalize W4.setCell ⟨X, 8, none⟩ (.slice none 0 0) = W6
        intro HL8
        obtain ⟨k0, k1, k2, k3, k4, k5, k6, k7, k8⟩ := (HL8.out.blk (g := X) (t := 26) (List.mem_cons_self ..)).nine
        have HBW := Lib.hid (HL8.out.blk (g := W.heap.size) (t := 26) (cs := #[.int .i64 0, .string ⟨#[]⟩, .string ⟨#[]⟩, .string ⟨#[]⟩, .bool false, .int .i64 0, .int .i64 0, .int .i64 0, .slice none 0 0]) (List.mem_cons_of_mem _ (List.mem_cons_self ..)))
        obtain ⟨f0, f1, f2, f3, f4, f5, f6, f7, f8⟩ := HBW.out.ninef
        obtain ⟨z0, z1, z2, z3, z4, z5, z6, z7, z8⟩ := HBW.out.nine
        go_upto_region 99 with fail
        clear f0 f1 f2 f3 f4 f5 f6 f7 f8 z0 z1 z2 z3 z4 z5 z6 z7 z8 k0 k1 k2 k3 k4 k5 k6 k7 k8
        obtain ⟨q0, q1, q2, q3, q4, q5, q6, q7, q8⟩ := (HBW.out.nine_set (.int .i64 k) (.string num) (.string den) (.string text) (.bool on) (.int .i64 code) (.int .i64 rr) (.int .i64 rc) (.slice none 0 0)).1.nine
        have hcn := chg_nine W6 W.heap.size (.int .i64 k) (.string num) (.string den) (.string text) (.bool on) (.int .i64 code) (.int .i64 rr) (.int .i64 rc) (.slice none 0 0)
        exact bodyPost_ret (v := .tuple #[.agg #[.int .i64 k, .string num, .string den, .string text, .bool on, .int .i64 code, .int .i64 rr, .int .i64 rc, .slice none 0 0], .int .i64 0]) (by simp [results, Tryz.results46, go_sem, q0, q1, q2, q3, q4, q5, q6, q7, q8]) rfl ⟨k, num, den, text, on, code, rr, rc, none, 0, 0, [], rfl, HP.out, reads_nil _, (fun _ => ⟨rfl, rfl⟩), (fun b o e => by cases e), HL8.out.bel.trans (hcn.below HL8.out.bel.size fun y hy => by rw [List.mem_singleton.1 hy]; exact Nat.le_refl _)⟩
      · obtain ⟨b2, o2, rfl⟩ : ∃ b o, A2 = some ⟨b, o, none⟩ := by
          obtain ⟨A', c', e, -, -, h3⟩ := HRD4.out
          injection e with e1 e2 e3
          obtain ⟨b, o, e4, -⟩ := h3 (by have := HUL.out; omega)
          exact ⟨b, o, e1.trans e4⟩
        rw [← HUL.out] at HRD4
        go_upto_region 20 with (at_builtin; refine wp_rowN 24 26 9 112 csV _ Tryz.underlying24 val_info rfl (by decide) csV_one rfl (.const (.slice none 0 0)) (.tmp 73) rfl W4.heap.size _ [] rfl (RowOf.nil _ _) us b2 o2 c2 (by rw [HUL.out]; rfl) HRD4.out (by rw [HUL.out]; omega) ?_ ?_ ?_ ?_; (rw [HUL.out]; simp; omega); (rw [HUL.out]; unfold maxLen; simp; omega); (exact Nat.le_refl _); intro v1 w5 ho1 hb1 hg1; have HL7 := Lib.hid (HL6.out.step hb1); rw [List.nil_append] at ho1; obtain ⟨g2, c3, hv1, hg2, -⟩ := ho1.form (by rw [HUL.out]; omega); subst hv1; rw [HUL.out] at ho1 ⊢; have HO1 := Lib.hid ho1; have y8 : w5.cell? ⟨X, 8, none⟩ = some (.slice (some ⟨b2, o2, none⟩) n2 c2) := (HL7.out.blk (g := X) (t := 26) (List.mem_cons_self ..)).cell 8; have f8 := (HL7.out.blk (g := X) (t := 26) (List.mem_cons_self ..)).frozen 8; clear ho1 hb1 hg1 x8)
        clear y8 f8
        have HL8 := Lib.hid (HL7.out.set1 (i := 8) (fun y hy => by
          simp only [List.mem_cons, List.not_mem_nil, or_false] at hy
          subst hy
          exact fun e => hXW e.symm) (.slice (some ⟨g2, 0, none⟩) n2 c3))
        have HO2 := Lib.hid (RowOf.reads (HO1.out.far (p := ⟨X, 8, none⟩) (fun g' e => by
          injection e with e
          have e : g2 = g' := e
          show g' ≠ X
          omega) (.slice (some ⟨g2, 0, none⟩) n2 c3)) csV_len)
        have hgW : g2 ≠ W.heap.size := by
          have := HL6.out.lt (g := W.heap.size) (t := 26) (List.mem_cons_of_mem _ (List.mem_cons_self ..))
          omega
        have HG := Lib.hid hgW
        have HGW := Lib.hid (show W.heap.size ≤ g2 from by have := HL6.out.bel.size; omega)
        clear HL7 HO1 HL6 hgW
        revert HL8 HO2
        generalize w5.setCell ⟨X, 8, none⟩ (.slice (some ⟨g2, 0, none⟩) n2 c3) = W6
        intro HL8 HO2
        obtain ⟨k0, k1, k2, k3, k4, k5, k6, k7, k8⟩ := (HL8.out.blk (g := X) (t := 26) (List.mem_cons_self ..)).nine
        have HBW := Lib.hid (HL8.out.blk (g := W.heap.size) (t := 26) (cs := #[.int .i64 0, .string ⟨#[]⟩, .string ⟨#[]⟩, .string ⟨#[]⟩, .bool false, .int .i64 0, .int .i64 0, .int .i64 0, .slice none 0 0]) (List.mem_cons_of_mem _ (List.mem_cons_self ..)))
        obtain ⟨f0, f1, f2, f3, f4, f5, f6, f7, f8⟩ := HBW.out.ninef
        obtain ⟨z0, z1, z2, z3, z4, z5, z6, z7, z8⟩ := HBW.out.nine
        go_upto_region 99 with fail
        clear f0 f1 f2 f3 f4 f5 f6 f7 f8 z0 z1 z2 z3 z4 z5 z6 z7 z8 k0 k1 k2 k3 k4 k5 k6 k7 k8
        obtain ⟨q0, q1, q2, q3, q4, q5, q6, q7, q8⟩ := (HBW.out.nine_set (.int .i64 k) (.string num) (.string den) (.string text) (.bool on) (.int .i64 code) (.int .i64 rr) (.int .i64 rc) (.slice (some ⟨g2, 0, none⟩) n2 c3)).1.nine
        have hcn := chg_nine W6 W.heap.size (.int .i64 k) (.string num) (.string den) (.string text) (.bool on) (.int .i64 code) (.int .i64 rr) (.int .i64 rc) (.slice (some ⟨g2, 0, none⟩) n2 c3)
        have hgl := (HO2.out.lt (by have := HUL.out; omega)).2.1
        exact bodyPost_ret (v := .tuple #[.agg #[.int .i64 k, .string num, .string den, .string text, .bool on, .int .i64 code, .int .i64 rr, .int .i64 rc, .slice (some ⟨g2, 0, none⟩) n2 c3], .int .i64 0]) (by simp [results, Tryz.results46, go_sem, q0, q1, q2, q3, q4, q5, q6, q7, q8]) rfl ⟨k, num, den, text, on, code, rr, rc, some ⟨g2, 0, none⟩, n2, c3, us, rfl, HP.out, reads_same HO2.out hcn.size (hcn.block g2 hgl (by rw [List.mem_singleton]; exact HG.out)), (fun h => absurd h (by omega)), (fun b o e => by injection e with e; injection e with e; have := HGW.out; omega), HL8.out.bel.trans (hcn.below HL8.out.bel.size fun y hy => by rw [List.mem_singleton.1 hy]; exact Nat.le_refl _)⟩
end Go.Proofs.YtcnlonaighlmbaaGreatDoor
