/- FlookTurnsBack: the law's walk. -/
import Derived.Test.YtllhefjblipddaaGreatDoorFlF
import Derived.Test.YtllhefjblipddaaGreatDoorGaj
set_option linter.unusedSimpArgs false
set_option linter.unusedVariables false
namespace Go.Proofs.YtllhefjblipddaaGreatDoor
open Go.RowKit

theorem gen_w {K : Act → World → Prop} {a : Act} {W : World} (h : ∀ wa, wa = W → K a wa) : K a W := h W rfl
/-- The cells of a new slice of values. -/
theorem reads_newN (W : World) (cs : Array Value) (l : List Vl) (h : cs.toList = l.flatMap csV) : Reads 9 csV (W.alloc (.cells cs 27)) (.slice (some ⟨W.heap.size, 0, none⟩) l.length l.length) l :=
  ⟨_, _, rfl, Nat.le_refl _, (fun e => by cases e), fun _ => ⟨W.heap.size, 0, rfl, by simp, fun i hi j hj => by
    have h1 := (Blk.new W 27 cs).cell (0 + (i * 9 + j))
    rw [h1, Nat.zero_add, ← Array.getElem?_toList, h]
    exact flat_get csV 9 csV_len l i j hi hj⟩⟩
theorem ar_reads {W : World} {R' C' R C n c : Nat} {A : Option Addr} {us : List Vl} (h : AR W (arrU R' C' A n c) R C us) : Reads 9 csV W (.slice A n c) us := by
  obtain ⟨A', n', c', e, -, hr⟩ := h.ex
  have e1 : A = A' := congrArg Vl.A e
  have e2 : n = n' := congrArg Vl.n e
  have e3 : c = c' := congrArg Vl.c e
  subst e1 e2 e3
  exact hr

set_option maxRecDepth 100000 in
set_option maxHeartbeats 40000000 in
theorem turns_w (A : Option Addr) (n c : Nat) (Z : List Int) (a1 a2 : Int) (w : World) (he : VEnv w) (hZ : Reads 1 (fun z : Int => [Value.int .i64 z]) w (.slice A n c) Z) (hn : n ≤ 9223372036854775807) (hx : ∀ x ∈ Z, -9223372036854775808 ≤ x ∧ x ≤ 9223372036854775807) (b1 : -9223372036854775808 ≤ a1 ∧ a1 ≤ 9223372036854775807) (b2 : -9223372036854775808 ≤ a2 ∧ a2 ≤ 9223372036854775807) :
    Calls Tryz.prog 3 #[.slice A n c, .int .i64 a1, .int .i64 a2] w fun e w' => e = .returned (.bool true) ∧ Below w.heap.size w w' := by
  obtain ⟨c4, hc4⟩ : ∃ c4, c4 = (a1 % 4).toNat := ⟨_, rfl⟩
  have hc4' : (c4 : Int) = a1 % 4 ∧ c4 ≤ 3 := by omega
  obtain ⟨C, hC⟩ : ∃ C, C = 1 + c4 := ⟨_, rfl⟩
  have c1 : 1 ≤ C := by omega
  have c2 : C ≤ 4 := by omega
  obtain ⟨R, hRR⟩ : ∃ R, R = max 1 (min n 30 / C) := ⟨_, rfl⟩
  have r1 : 1 ≤ R := by omega
  have hR : R ≤ 100 := by
    have : min n 30 / C ≤ min n 30 := Nat.div_le_self _ _
    omega
  have hT : R * C ≤ 30 := by
    by_cases h : R = 1
    · rw [h]; omega
    · have e : R = min n 30 / C := by omega
      rw [e]
      have := Nat.div_mul_le_self (min n 30) C
      omega
  obtain ⟨k0, hk0⟩ : ∃ k0, k0 = (a2 % (R : Int)).toNat := ⟨_, rfl⟩
  have hk0' : (k0 : Int) = a2 % (R : Int) ∧ k0 < R := by
    have h1 := Int.emod_nonneg a2 (show (R : Int) ≠ 0 by omega)
    have h2 := Int.emod_lt_of_pos a2 (show (0 : Int) < (R : Int) by omega)
    omega
  obtain ⟨k, hk⟩ : ∃ k, k = 1 + k0 := ⟨_, rfl⟩
  have k1 : 0 < k := by omega
  have kR : k ≤ R := by omega
  have HM1 := Lib.hid (show Calls Tryz.prog 6 #[.int .i64 a1, .int .i64 4] w fun e w' => e = .returned (.int .i64 (c4 : Int)) ∧ w = w' from by rw [hc4'.1]; exact mod_any a1 4 w (by decide) (by decide) b1)
  have HM2 := Lib.hid (show ∀ W, Calls Tryz.prog 6 #[.int .i64 a2, .int .i64 (R : Int)] W fun e w' => e = .returned (.int .i64 (k0 : Int)) ∧ W = w' from fun W => by rw [hk0'.1]; exact mod_any a2 R W (by omega) (by omega) b2)
  have HTB := Lib.hid (table_h A n c Z w C R he hZ hn hx c1 c2 hRR)
  have e1 : (1 : Int) + (c4 : Int) = (C : Int) := by omega
  have e2 : (1 : Int) + (k0 : Int) = (k : Int) := by omega
  have e3 : IntKind.i64.wrap ((1 : Int) + (c4 : Int)) = (C : Int) := by rw [e1]; exact IntWalk.i64_in _ (by omega)
  have e4 : IntKind.i64.wrap ((1 : Int) + (k0 : Int)) = (k : Int) := by rw [e2]; exact IntWalk.i64_in _ (by omega)
  have HEW := Lib.hid he
  obtain ⟨us, hus⟩ : ∃ us, us = tabU Z (R * C) := ⟨_, rfl⟩
  have hg : GoodI us := by rw [hus]; exact tabU_good Z _ (by omega)
  have hul : us.length = R * C := by rw [hus]; exact tabU_len Z _
  rw [← hus] at HTB
  have HGU := Lib.hid (show ∀ u ∈ us, u.n = 0 from fun u hu => (hg u hu).2.2)
  obtain ⟨nn, hnn⟩ : ∃ nn, nn = R * C := ⟨_, rfl⟩
  have hnb : 1 ≤ nn ∧ nn ≤ 30 := ⟨by rw [hnn]; exact Nat.mul_pos r1 c1, by omega⟩
  have HNN := Lib.hid hnn
  have HUL := Lib.hid hul
  clear hc4 hC hRR hk0 hc4' hk0' hZ hx he hn hus hnn hul hk b1 b2
  go_enter Tryz.func3, Tryz.ntmps3
  go_upto_region 2 with (first
    | (go_at_call 6; (with_reducible refine HM1.out.mono ?_); rintro e w0 ⟨rfl, rfl⟩)
    | (go_at_call 5; (with_reducible refine HTB.out.mono ?_); rintro e w1 ⟨u', he, har, hb⟩; obtain ⟨A1, n1, cc, rfl, hn1, hr⟩ := har.ex; have he : e = .returned (.agg #[.int .i64 5, .string ⟨#[]⟩, .string ⟨#[]⟩, .string ⟨#[]⟩, .bool false, .int .i64 0, .int .i64 (R : Int), .int .i64 (C : Int), .slice A1 n1 cc]) := he; subst he; obtain rfl : nn = n1 := HNN.out.trans hn1.symm; have HA1 := Lib.hid har; have HB1 := Lib.hid hb; clear har hb hr hn1))
  obtain ⟨V, hV⟩ : ∃ V, V = w1.heap.size := ⟨_, rfl⟩
  have HAV := Lib.hid (show ∀ b o, A1 = some ⟨b, o, none⟩ → b < V from by rw [hV]; exact ar_lt HA1.out)
  have HPV := Lib.hid (show Blk (w1.alloc (.cells #[.int .i64 5, .string ⟨#[]⟩, .string ⟨#[]⟩, .string ⟨#[]⟩, .bool false, .int .i64 0, .int .i64 (R : Int), .int .i64 (C : Int), .slice A1 nn cc] 27)) V 27 #[.int .i64 5, .string ⟨#[]⟩, .string ⟨#[]⟩, .string ⟨#[]⟩, .bool false, .int .i64 0, .int .i64 (R : Int), .int .i64 (C : Int), .slice A1 nn cc] from by rw [hV]; exact Blk.new w1 _ _)
  have HUV := Lib.hid (HA1.out.below (below_al w1 (.cells #[.int .i64 5, .string ⟨#[]⟩, .string ⟨#[]⟩, .string ⟨#[]⟩, .bool false, .int .i64 0, .int .i64 (R : Int), .int .i64 (C : Int), .slice A1 nn cc] 27)))
  have HBW := Lib.hid (below_tr HB1.out (below_al w1 (.cells #[.int .i64 5, .string ⟨#[]⟩, .string ⟨#[]⟩, .string ⟨#[]⟩, .bool false, .int .i64 0, .int .i64 (R : Int), .int .i64 (C : Int), .slice A1 nn cc] 27)))
  have HVW := Lib.hid (show w.heap.size ≤ V from by rw [hV]; exact HB1.out.size)
  rw [← hV]
  clear HA1 HB1 hV
  revert HPV HUV HBW
  generalize w1.alloc (.cells #[.int .i64 5, .string ⟨#[]⟩, .string ⟨#[]⟩, .string ⟨#[]⟩, .bool false, .int .i64 0, .int .i64 (R : Int), .int .i64 (C : Int), .slice A1 nn cc] 27) = w2
  intro HPV HUV HBW
  obtain ⟨x0, x1, x2, x3, x4, x5, x6, x7, x8⟩ := HPV.out.nine
  have HEV := Lib.hid (show ∀ W', Below w2.heap.size w2 W' → VEnv W' from fun W' h => HEW.out.below (below_tr HBW.out h))
  have HNM := Lib.hid (show nn = C * R from by rw [HNN.out, Nat.mul_comm])
  go_upto_region 4 with (first
    | (go_at_call 6; (with_reducible refine (HM2.out _).mono ?_); rintro e w0 ⟨rfl, rfl⟩)
    | (go_at_call 7; (with_reducible refine (look_T _ (arrU R C A1 nn cc) (some ⟨w2.heap.size, 0, none⟩) 1 R C us (HEV.out _ (below_al w2 _)) (reads_newN w2 _ [(arrU R C A1 nn cc)] rfl) (HUV.out.below (below_al w2 _)) hg hR).mono ?_); rintro e w3 ⟨u', he, har, -, hb⟩; obtain ⟨At, n1, ct, rfl, hn1, hr⟩ := har.ex; have he : e = .returned (.agg #[.int .i64 5, .string ⟨#[]⟩, .string ⟨#[]⟩, .string ⟨#[]⟩, .bool false, .int .i64 0, .int .i64 (C : Int), .int .i64 (R : Int), .slice At n1 ct]) := he; subst he; obtain rfl : nn = n1 := HNM.out.trans hn1.symm; have HA3 := Lib.hid har; have HB3 := Lib.hid (below_tr (below_al w2 _) hb); clear har hb hr hn1))
  clear x0 x1 x2 x3 x4 x5 x6 x7 x8 HEV
  obtain ⟨T8, hT8⟩ : ∃ T8, T8 = w3.heap.size := ⟨_, rfl⟩
  have HAT := Lib.hid (show ∀ b o, At = some ⟨b, o, none⟩ → b < T8 from by rw [hT8]; exact ar_lt HA3.out)
  have hb4 := below_tr HB3.out (below_al w3 (.cells #[.int .i64 5, .string ⟨#[]⟩, .string ⟨#[]⟩, .string ⟨#[]⟩, .bool false, .int .i64 0, .int .i64 (C : Int), .int .i64 (R : Int), .slice At nn ct] 27))
  have HPT4 := Lib.hid (show Blk (w3.alloc (.cells #[.int .i64 5, .string ⟨#[]⟩, .string ⟨#[]⟩, .string ⟨#[]⟩, .bool false, .int .i64 0, .int .i64 (C : Int), .int .i64 (R : Int), .slice At nn ct] 27)) T8 27 #[.int .i64 5, .string ⟨#[]⟩, .string ⟨#[]⟩, .string ⟨#[]⟩, .bool false, .int .i64 0, .int .i64 (C : Int), .int .i64 (R : Int), .slice At nn ct] from by rw [hT8]; exact Blk.new w3 _ _)
  have HPV4 := Lib.hid (HPV.out.later hb4)
  have HUV4 := Lib.hid (HUV.out.below hb4)
  have HUT4 := Lib.hid (HA3.out.below (below_al w3 (.cells #[.int .i64 5, .string ⟨#[]⟩, .string ⟨#[]⟩, .string ⟨#[]⟩, .bool false, .int .i64 0, .int .i64 (C : Int), .int .i64 (R : Int), .slice At nn ct] 27)))
  have HBW4 := Lib.hid (below_tr HBW.out hb4)
  have HVT := Lib.hid (show V < T8 from by rw [hT8]; exact Nat.lt_of_lt_of_le HPV.out.lt HB3.out.size)
  rw [← hT8]
  clear HA3 HB3 hT8 hb4 HPV HUV HBW
  revert HPT4 HPV4 HUV4 HUT4 HBW4
  generalize w3.alloc (.cells #[.int .i64 5, .string ⟨#[]⟩, .string ⟨#[]⟩, .string ⟨#[]⟩, .bool false, .int .i64 0, .int .i64 (C : Int), .int .i64 (R : Int), .slice At nn ct] 27) = w4
  intro HPT4 HPV4 HUV4 HUT4 HBW4
  obtain ⟨x0, x1, x2, x3, x4, x5, x6, x7, x8⟩ := HPV4.out.nine
  have y6 := HPT4.out.nine.2.2.2.2.2.2.1
  go_upto_region 7 with fail
  clear x0 x1 x2 x3 x4 x5 x6 x7 x8 y6
  obtain ⟨B9, hB9⟩ : ∃ B9, B9 = w4.heap.size := ⟨_, rfl⟩
  have hb5 := below_al w4 (.cells #[.int .i64 5, .string ⟨#[]⟩, .string ⟨#[]⟩, .string ⟨#[]⟩, .bool false, .int .i64 0, .int .i64 (R : Int), .int .i64 (C : Int), .slice A1 nn cc] 27)
  have HPB := Lib.hid (show Blk (w4.alloc (.cells #[.int .i64 5, .string ⟨#[]⟩, .string ⟨#[]⟩, .string ⟨#[]⟩, .bool false, .int .i64 0, .int .i64 (R : Int), .int .i64 (C : Int), .slice A1 nn cc] 27)) B9 27 #[.int .i64 5, .string ⟨#[]⟩, .string ⟨#[]⟩, .string ⟨#[]⟩, .bool false, .int .i64 0, .int .i64 (R : Int), .int .i64 (C : Int), .slice A1 nn cc] from by rw [hB9]; exact Blk.new w4 _ _)
  have HPT := Lib.hid (HPT4.out.later hb5)
  have HPV := Lib.hid (HPV4.out.later hb5)
  have HUV := Lib.hid (HUV4.out.below hb5)
  have HUT := Lib.hid (HUT4.out.below hb5)
  have HBW := Lib.hid (below_tr HBW4.out hb5)
  have HTB9 := Lib.hid (show T8 < B9 from by rw [hB9]; exact HPT4.out.lt)
  rw [← hB9]
  clear hb5 hB9 HPT4 HPV4 HUV4 HUT4 HBW4
  revert HPB HPT HPV HUV HUT HBW
  generalize w4.alloc (.cells #[.int .i64 5, .string ⟨#[]⟩, .string ⟨#[]⟩, .string ⟨#[]⟩, .bool false, .int .i64 0, .int .i64 (R : Int), .int .i64 (C : Int), .slice A1 nn cc] 27) = wp
  intro HPB HPT HPV HUV HUT HBW
  have x6 := HPV.out.nine.2.2.2.2.2.2.1
  go_upto_if 32 with fail
  clear x6
  go_cut [33] (fun u33 wz => ∃ Ab cb, Hid (Blk wz B9 27 #[.int .i64 5, .string ⟨#[]⟩, .string ⟨#[]⟩, .string ⟨#[]⟩, .bool false, .int .i64 0, .int .i64 (R : Int), .int .i64 (C : Int), .slice Ab nn cb]) ∧ Hid (Chg wp.heap.size [B9] wp wz) ∧ Hid (AR wz (arrU R C Ab nn cb) R C us))
  case first =>
    by_cases hk : k < R
    rotate_left
    · have hkz : ¬ (k : Int) < (R : Int) := by omega
      go_wp2_with fail
      go_meet
      exact ⟨A1, cc, HPB, Lib.hid (Chg.refl _ _ _), HUV⟩
    · have hkz : (k : Int) < (R : Int) := by omega
      obtain ⟨rk, hrk⟩ : ∃ rk, rk = R - k := ⟨_, rfl⟩
      have HRK := Lib.hid hrk
      have HVS1 := Lib.hid (show sumR (fun i => if i = 0 then k else rk) 2 = R from by show 0 + k + rk = R; omega)
      have HVS2 := Lib.hid (show catX (fun i => if i = 0 then rowsL C 0 k us else rowsL C k rk us) 2 = us from by
        show [] ++ rowsL C 0 k us ++ rowsL C k rk us = us
        rw [List.nil_append, hrk]
        exact rowsL_all C R k us HUL.out)
      clear hrk
      have HEV := Lib.hid (show ∀ W', Below wp.heap.size wp W' → VEnv W' from fun W' h => HEW.out.below (below_tr HBW.out h))
      have HWK := Lib.hid (show ∀ W', Below wp.heap.size wp W' → Calls Tryz.prog 8 #[.int .i64 (k : Int)] W' fun e w' => e = .returned (.agg #[.int .i64 1, .string (nt k), .string ⟨#[49]⟩, .string ⟨#[]⟩, .bool false, .int .i64 0, .int .i64 0, .int .i64 0, .slice none 0 0]) ∧ Below W'.heap.size W' w' from fun W' h => whole_h k W' (HEV.out W' h) (by omega))
      have HSV := Lib.hid (show ∀ w', Blk w' V 27 #[.int .i64 5, .string ⟨#[]⟩, .string ⟨#[]⟩, .string ⟨#[]⟩, .bool false, .int .i64 0, .int .i64 (R : Int), .int .i64 (C : Int), .slice A1 nn cc] → w'.cell? ⟨V, 0, none⟩ = some (.int .i64 5) ∧ w'.cell? ⟨V, 1, none⟩ = some (.string ⟨#[]⟩) ∧ w'.cell? ⟨V, 2, none⟩ = some (.string ⟨#[]⟩) ∧ w'.cell? ⟨V, 3, none⟩ = some (.string ⟨#[]⟩) ∧ w'.cell? ⟨V, 4, none⟩ = some (.bool false) ∧ w'.cell? ⟨V, 5, none⟩ = some (.int .i64 0) ∧ w'.cell? ⟨V, 6, none⟩ = some (.int .i64 (R : Int)) ∧ w'.cell? ⟨V, 7, none⟩ = some (.int .i64 (C : Int)) ∧ w'.cell? ⟨V, 8, none⟩ = some (.slice A1 nn cc) from fun w' h => ⟨h.cell 0, h.cell 1, h.cell 2, h.cell 3, h.cell 4, h.cell 5, h.cell 6, h.cell 7, h.cell 8⟩)
      have HVB := Lib.hid (show V ∉ [B9] from by have := HVT.out; have := HTB9.out; rw [List.mem_singleton]; omega)
      go_upto_region 8 with fail
      refine wp_region_G (S1 := fun w' => w'.cell? ⟨V, 0, none⟩ = some (.int .i64 5) ∧ w'.cell? ⟨V, 1, none⟩ = some (.string ⟨#[]⟩) ∧ w'.cell? ⟨V, 2, none⟩ = some (.string ⟨#[]⟩) ∧ w'.cell? ⟨V, 3, none⟩ = some (.string ⟨#[]⟩) ∧ w'.cell? ⟨V, 4, none⟩ = some (.bool false) ∧ w'.cell? ⟨V, 5, none⟩ = some (.int .i64 0) ∧ w'.cell? ⟨V, 6, none⟩ = some (.int .i64 (R : Int)) ∧ w'.cell? ⟨V, 7, none⟩ = some (.int .i64 (C : Int)) ∧ w'.cell? ⟨V, 8, none⟩ = some (.slice A1 nn cc)) (S2 := fun _ => True) (d := 99) (by kernel_rfl) (HSV.out _ HPV.out.drew) trivial (fun hT => ?_)
      refine wpAnyG_take1d (i := 0) (v := ?_) rfl rfl (by kernel_rfl) (by kernel_rfl) (by kernel_rfl) (by kernel_rfl) (fun _ _ _ h => h) (Or.inl ⟨by rfl, ?_⟩) (by assumption) (fun hT => ?_)
      rotate_left
      · intro w hSw
        (try dsimp only at hSw)
        go_simp
        (try with_reducible rfl)
      (try simp only [Act.put, List.setIfInBounds_toArray, List.set_cons_zero, List.set_cons_succ])
      refine wpAnyG_take1d (i := 1) (v := ?_) rfl rfl (by kernel_rfl) (by kernel_rfl) (by kernel_rfl) (by kernel_rfl) (fun _ _ _ h => h) (Or.inl ⟨by rfl, ?_⟩) (by assumption) (fun hT => ?_)
      rotate_left
      · intro w hSw
        (try dsimp only at hSw)
        go_simp
        (try with_reducible rfl)
      (try simp only [Act.put, List.setIfInBounds_toArray, List.set_cons_zero, List.set_cons_succ])
      refine wpAnyG_take1d (i := 5) (v := ?_) rfl rfl (by kernel_rfl) (by kernel_rfl) (by kernel_rfl) (by kernel_rfl) (fun _ _ _ h => h) (Or.inl ⟨by rfl, ?_⟩) (by assumption) (fun hT => ?_)
      rotate_left
      · intro w hSw
        (try dsimp only at hSw)
        go_simp
        (try with_reducible rfl)
      (try simp only [Act.put, List.setIfInBounds_toArray, List.set_cons_zero, List.set_cons_succ])
      refine wpAnyG_take1d (i := 6) (v := ?_) rfl rfl (by kernel_rfl) (by kernel_rfl) (by kernel_rfl) (by kernel_rfl) (fun _ _ _ h => h) (Or.inl ⟨by rfl, ?_⟩) (by assumption) (fun hT => ?_)
      rotate_left
      · intro w hSw
        (try dsimp only at hSw)
        go_simp
        (try with_reducible rfl)
      (try simp only [Act.put, List.setIfInBounds_toArray, List.set_cons_zero, List.set_cons_succ])
      refine wpAnyG_ready (rs := [2]) (by kernel_rfl) (by simp) ?_
      refine AllG.cons (i := 2) rfl (fun K hK => ?_) AllG.nil
      go_simp
      go_at_call 8
      (with_reducible refine (HWK.out _ (by first | exact Below.refl _ wp | exact (Below.refl _ wp).drew)).mono ?_)
      rintro e w1 ⟨rfl, hb⟩
      have HSw1 := Lib.hid (show Below wp.heap.size wp w1 from by first | exact hb | exact (Below.refl _ wp).drew.trans hb)
      clear hb
      refine hK.out _ _ ⟨HSV.out _ (HPV.out.later HSw1.out), .inr trivial⟩ (fun hT => ?_)
      clear hK K
      (try simp only [Act.put, List.setIfInBounds_toArray, List.set_cons_zero, List.set_cons_succ])
      refine wpAnyG_ready (rs := [3]) (by kernel_rfl) (by simp) ?_
      refine AllG.cons (i := 3) rfl (fun K hK => ?_) AllG.nil
      go_simp
      refine gen_w ?_
      intro w2 hwa
      have HSw2 := Lib.hid (show Below w1.heap.size w1 w2 from by rw [hwa]; first | exact below_al w1 _ | exact (below_al w1 _).drew)
      have HBw2 := Lib.hid (show Reads 9 csV w2 (.slice (some ⟨w1.heap.size, 0, none⟩) 2 2) [(arrU R C A1 nn cc), (nV k)] from by rw [hwa]; exact reads_newN w1 _ [(arrU R C A1 nn cc), (nV k)] rfl)
      clear hwa
      refine hK.out _ _ ⟨HSV.out _ (HPV.out.later (below_tr HSw1.out HSw2.out)), .inr trivial⟩ (fun hT => ?_)
      clear hK K
      (try simp only [Act.put, List.setIfInBounds_toArray, List.set_cons_zero, List.set_cons_succ])
      refine wpAnyG_ready (rs := [4]) (by kernel_rfl) (by simp) ?_
      refine AllG.cons (i := 4) rfl (fun K hK => ?_) AllG.nil
      go_simp
      go_at_call 7
      (with_reducible refine (look_Ta w2 (arrU R C A1 nn cc) (some ⟨w1.heap.size, 0, none⟩) 2 R C k us (HEV.out _ (below_tr HSw1.out HSw2.out)) HBw2.out (HUV.out.below (below_tr HSw1.out HSw2.out)) hg hR k1 (Nat.le_of_lt hk)).mono ?_)
      rintro e w3 ⟨u', he, har, -, hb⟩
      obtain ⟨Ax, nx, cx, rfl, hnx, hr⟩ := har.ex
      have he : e = .returned (.agg #[.int .i64 5, .string ⟨#[]⟩, .string ⟨#[]⟩, .string ⟨#[]⟩, .bool false, .int .i64 0, .int .i64 (k : Int), .int .i64 (C : Int), .slice Ax nx cx]) := he
      subst he
      have HSw3 := Lib.hid (show Below w2.heap.size w2 w3 from by first | exact hb | exact (Below.refl _ w2).drew.trans hb)
      have HAx := Lib.hid har
      have HRx := Lib.hid hr
      have HNx := Lib.hid hnx
      clear har hr hb hnx
      refine hK.out _ _ ⟨HSV.out _ (HPV.out.later (below_tr (below_tr HSw1.out HSw2.out) HSw3.out)), .inr trivial⟩ (fun hT => ?_)
      clear hK K
      (try simp only [Act.put, List.setIfInBounds_toArray, List.set_cons_zero, List.set_cons_succ])
      refine wpAnyG_ready (rs := [7]) (by kernel_rfl) (by simp) ?_
      refine AllG.cons (i := 7) rfl (fun K hK => ?_) AllG.nil
      go_simp
      go_at_call 8
      (with_reducible refine (HWK.out _ (below_tr (below_tr HSw1.out HSw2.out) HSw3.out)).mono ?_)
      rintro e w4 ⟨rfl, hb⟩
      have HSw4 := Lib.hid (show Below w3.heap.size w3 w4 from by first | exact hb | exact (Below.refl _ w3).drew.trans hb)
      clear hb
      refine hK.out _ _ ⟨HSV.out _ (HPV.out.later (below_tr (below_tr (below_tr HSw1.out HSw2.out) HSw3.out) HSw4.out)), .inr trivial⟩ (fun hT => ?_)
      clear hK K
      (try simp only [Act.put, List.setIfInBounds_toArray, List.set_cons_zero, List.set_cons_succ])
      refine wpAnyG_ready (rs := [8]) (by kernel_rfl) (by simp) ?_
      refine AllG.cons (i := 8) rfl (fun K hK => ?_) AllG.nil
      go_simp
      refine gen_w ?_
      intro w5 hwa
      have HSw5 := Lib.hid (show Below w4.heap.size w4 w5 from by rw [hwa]; first | exact below_al w4 _ | exact (below_al w4 _).drew)
      have HBw5 := Lib.hid (show Reads 9 csV w5 (.slice (some ⟨w4.heap.size, 0, none⟩) 2 2) [(arrU R C A1 nn cc), (nV k)] from by rw [hwa]; exact reads_newN w4 _ [(arrU R C A1 nn cc), (nV k)] rfl)
      clear hwa
      refine hK.out _ _ ⟨HSV.out _ (HPV.out.later (below_tr (below_tr (below_tr (below_tr HSw1.out HSw2.out) HSw3.out) HSw4.out) HSw5.out)), .inr trivial⟩ (fun hT => ?_)
      clear hK K
      (try simp only [Act.put, List.setIfInBounds_toArray, List.set_cons_zero, List.set_cons_succ])
      refine wpAnyG_ready (rs := [9]) (by kernel_rfl) (by simp) ?_
      refine AllG.cons (i := 9) rfl (fun K hK => ?_) AllG.nil
      go_simp
      go_at_call 7
      (with_reducible refine (look_Dr w5 (arrU R C A1 nn cc) (some ⟨w4.heap.size, 0, none⟩) 2 R C k us (HEV.out _ (below_tr (below_tr (below_tr (below_tr HSw1.out HSw2.out) HSw3.out) HSw4.out) HSw5.out)) HBw5.out (HUV.out.below (below_tr (below_tr (below_tr (below_tr HSw1.out HSw2.out) HSw3.out) HSw4.out) HSw5.out)) hg hR k1 hk).mono ?_)
      rintro e w6 ⟨u', he, har, -, hb⟩
      rw [← HRK.out] at har
      obtain ⟨Ay, ny, cy, rfl, hny, hr⟩ := har.ex
      have he : e = .returned (.agg #[.int .i64 5, .string ⟨#[]⟩, .string ⟨#[]⟩, .string ⟨#[]⟩, .bool false, .int .i64 0, .int .i64 (rk : Int), .int .i64 (C : Int), .slice Ay ny cy]) := he
      subst he
      have HSw6 := Lib.hid (show Below w5.heap.size w5 w6 from by first | exact hb | exact (Below.refl _ w5).drew.trans hb)
      have HAy := Lib.hid har
      have HRy := Lib.hid hr
      have HNy := Lib.hid hny
      clear har hr hb hny
      refine hK.out _ _ ⟨HSV.out _ (HPV.out.later (below_tr (below_tr (below_tr (below_tr (below_tr HSw1.out HSw2.out) HSw3.out) HSw4.out) HSw5.out) HSw6.out)), .inr trivial⟩ (fun hT => ?_)
      clear hK K
      (try simp only [Act.put, List.setIfInBounds_toArray, List.set_cons_zero, List.set_cons_succ])
      refine wpAnyG_ready (rs := [10]) (by kernel_rfl) (by simp) ?_
      refine AllG.cons (i := 10) rfl (fun K hK => ?_) AllG.nil
      go_simp
      refine gen_w ?_
      intro w7 hwa
      have HSw7 := Lib.hid (show Below w6.heap.size w6 w7 from by rw [hwa]; first | exact below_al w6 _ | exact (below_al w6 _).drew)
      have HBw7 := Lib.hid (show Reads 9 csV w7 (.slice (some ⟨w6.heap.size, 0, none⟩) 2 2) [(arrU k C Ax nx cx), (arrU rk C Ay ny cy)] from by rw [hwa]; exact reads_newN w6 _ [(arrU k C Ax nx cx), (arrU rk C Ay ny cy)] rfl)
      clear hwa
      refine hK.out _ _ ⟨HSV.out _ (HPV.out.later (below_tr (below_tr (below_tr (below_tr (below_tr (below_tr HSw1.out HSw2.out) HSw3.out) HSw4.out) HSw5.out) HSw6.out) HSw7.out)), .inr trivial⟩ (fun hT => ?_)
      clear hK K
      (try simp only [Act.put, List.setIfInBounds_toArray, List.set_cons_zero, List.set_cons_succ])
      refine wpAnyG_ready (rs := [11]) (by kernel_rfl) (by simp) ?_
      refine AllG.cons (i := 11) rfl (fun K hK => ?_) AllG.nil
      go_simp
      go_at_call 7
      (with_reducible refine (look_Vs w7 (arrU k C Ax nx cx) (arrU rk C Ay ny cy) (some ⟨w6.heap.size, 0, none⟩) 2 k rk C (rowsL C 0 k us) (rowsL C k rk us) (HEV.out _ (below_tr (below_tr (below_tr (below_tr (below_tr (below_tr HSw1.out HSw2.out) HSw3.out) HSw4.out) HSw5.out) HSw6.out) HSw7.out)) HBw7.out (HAx.out.below (below_tr (below_tr (below_tr HSw4.out HSw5.out) HSw6.out) HSw7.out)) (HAy.out.below HSw7.out) (hg.rows C 0 k) (hg.rows C k rk) (by have := HRK.out; omega)).mono ?_)
      rintro e w8 ⟨u', he, har, hfr, hb⟩
      rw [HVS1.out, HVS2.out] at har
      obtain ⟨Ab, nb, cb, rfl, hnb, hr⟩ := har.ex
      have he : e = .returned (.agg #[.int .i64 5, .string ⟨#[]⟩, .string ⟨#[]⟩, .string ⟨#[]⟩, .bool false, .int .i64 0, .int .i64 (R : Int), .int .i64 (C : Int), .slice Ab nb cb]) := he
      subst he
      have HSw8 := Lib.hid (show Below w7.heap.size w7 w8 from by first | exact hb | exact (Below.refl _ w7).drew.trans hb)
      have HAb := Lib.hid har
      have HRb := Lib.hid hr
      have HNb := Lib.hid hnb
      clear har hr hb hnb
      have HFB := Lib.hid (show ∀ b o, Ab = some ⟨b, o, none⟩ → w7.heap.size ≤ b from hfr)
      clear hfr
      obtain rfl : nn = nb := HNN.out.trans HNb.out.symm
      have HZ8 := Lib.hid (HPB.out.later (below_tr (below_tr (below_tr (below_tr (below_tr (below_tr (below_tr HSw1.out HSw2.out) HSw3.out) HSw4.out) HSw5.out) HSw6.out) HSw7.out) HSw8.out))
      obtain ⟨z0, z1, z2, z3, z4, z5, z6, z7, z8⟩ := HZ8.out.nine
      obtain ⟨f0, f1, f2, f3, f4, f5, f6, f7, f8⟩ := HZ8.out.ninef
      refine hK.out _ _ ⟨HSV.out _ (HPV.out.later (below_tr (below_tr (below_tr (below_tr (below_tr (below_tr (below_tr HSw1.out HSw2.out) HSw3.out) HSw4.out) HSw5.out) HSw6.out) HSw7.out) HSw8.out)), .inr trivial⟩ (fun hT => ?_)
      clear hK K
      (try simp only [Act.put, List.setIfInBounds_toArray, List.set_cons_zero, List.set_cons_succ])
      refine wpAnyG_ready (rs := [12]) (by kernel_rfl) (by simp) ?_
      refine AllG.cons (i := 12) rfl (fun K hK => ?_) AllG.nil
      go_simp
      have HCN := Lib.hid (chg_nine w8 B9 (.int .i64 5) (.string ⟨#[]⟩) (.string ⟨#[]⟩) (.string ⟨#[]⟩) (.bool false) (.int .i64 0) (.int .i64 (R : Int)) (.int .i64 (C : Int)) (.slice Ab nn cb))
      have HV8 := Lib.hid (HPV.out.later (below_tr (below_tr (below_tr (below_tr (below_tr (below_tr (below_tr HSw1.out HSw2.out) HSw3.out) HSw4.out) HSw5.out) HSw6.out) HSw7.out) HSw8.out))
      refine hK.out _ _ ⟨HSV.out _ (HCN.out.blk HV8.out HV8.out.lt HVB.out), .inr trivial⟩ (fun hT => ?_)
      clear hK K
      (try simp only [Act.put, List.setIfInBounds_toArray, List.set_cons_zero, List.set_cons_succ])
      refine wpAnyG_done (by kernel_rfl) ?_ _
      clear z0 z1 z2 z3 z4 z5 z6 z7 z8 f0 f1 f2 f3 f4 f5 f6 f7 f8
      go_wp2_with fail
      go_meet
      exact ⟨Ab, cb, Lib.hid (HZ8.out.nine_set (.int .i64 5) (.string ⟨#[]⟩) (.string ⟨#[]⟩) (.string ⟨#[]⟩) (.bool false) (.int .i64 0) (.int .i64 (R : Int)) (.int .i64 (C : Int)) (.slice Ab nn cb)).1, Lib.hid ((Chg.of (below_tr (below_tr (below_tr (below_tr (below_tr (below_tr (below_tr HSw1.out HSw2.out) HSw3.out) HSw4.out) HSw5.out) HSw6.out) HSw7.out) HSw8.out) [B9]).next HCN.out), Lib.hid (HAb.out.same HCN.out.size (fun b o e hb => HCN.out.block b hb (by
        have h1 := HFB.out b o e
        have h2 := ((below_tr (below_tr (below_tr (below_tr (below_tr (below_tr HSw1.out HSw2.out) HSw3.out) HSw4.out) HSw5.out) HSw6.out) HSw7.out)).size
        have h3 := HPB.out.lt
        rw [List.mem_singleton]
        omega)))⟩

  case rest =>
    obtain ⟨Ab, cb, HBK, HCH, HUBc⟩ := hcut
    have hch := HCH.out
    have hvt := HVT.out
    have htb := HTB9.out
    have HPVc := Lib.hid (hch.blk HPV.out HPV.out.lt (by rw [List.mem_singleton]; omega))
    have HPTc := Lib.hid (hch.blk HPT.out HPT.out.lt (by rw [List.mem_singleton]; omega))
    have HUVc := Lib.hid (HUV.out.same hch.size (fun b o e hb => hch.block b hb (by have := HAV.out b o e; rw [List.mem_singleton]; omega)))
    have HUTc := Lib.hid (HUT.out.same hch.size (fun b o e hb => hch.block b hb (by have := HAT.out b o e; rw [List.mem_singleton]; omega)))
    have HBWc := Lib.hid (HBW.out.trans (hch.below HBW.out.size (fun x hx => by have := HVW.out; rw [List.mem_singleton.1 hx]; omega)))
    clear hch hvt htb HPV HPT HPB HUV HUT HBW HCH HAV HAT HVT HTB9 HVW
    have HUV := HUVc
    have HUT := HUTc
    have HBW := HBWc
    have HRV := Lib.hid (ar_reads HUV.out)
    have HRB := Lib.hid (ar_reads HUBc.out)
    have HEV := Lib.hid (show ∀ W', Below wc.heap.size wc W' → VEnv W' from fun W' h => HEW.out.below (below_tr HBW.out h))
    have HWC := Lib.hid (show ∀ W', Below wc.heap.size wc W' → Calls Tryz.prog 8 #[.int .i64 (C : Int)] W' fun e w' => e = .returned (.agg #[.int .i64 1, .string (nt C), .string ⟨#[49]⟩, .string ⟨#[]⟩, .bool false, .int .i64 0, .int .i64 0, .int .i64 0, .slice none 0 0]) ∧ Below W'.heap.size W' w' from fun W' h => whole_h C W' (HEV.out W' h) (by omega))
    have HSS := Lib.hid (show ∀ w', Below wc.heap.size wc w' → w'.cell? ⟨V, 0, none⟩ = some (.int .i64 5) ∧ w'.cell? ⟨V, 1, none⟩ = some (.string ⟨#[]⟩) ∧ w'.cell? ⟨V, 2, none⟩ = some (.string ⟨#[]⟩) ∧ w'.cell? ⟨V, 3, none⟩ = some (.string ⟨#[]⟩) ∧ w'.cell? ⟨V, 4, none⟩ = some (.bool false) ∧ w'.cell? ⟨V, 5, none⟩ = some (.int .i64 0) ∧ w'.cell? ⟨V, 6, none⟩ = some (.int .i64 (R : Int)) ∧ w'.cell? ⟨V, 7, none⟩ = some (.int .i64 (C : Int)) ∧ w'.cell? ⟨V, 8, none⟩ = some (.slice A1 nn cc) ∧ w'.cell? ⟨T8, 0, none⟩ = some (.int .i64 5) ∧ w'.cell? ⟨T8, 1, none⟩ = some (.string ⟨#[]⟩) ∧ w'.cell? ⟨T8, 2, none⟩ = some (.string ⟨#[]⟩) ∧ w'.cell? ⟨T8, 3, none⟩ = some (.string ⟨#[]⟩) ∧ w'.cell? ⟨T8, 4, none⟩ = some (.bool false) ∧ w'.cell? ⟨T8, 5, none⟩ = some (.int .i64 0) ∧ w'.cell? ⟨T8, 6, none⟩ = some (.int .i64 (C : Int)) ∧ w'.cell? ⟨T8, 7, none⟩ = some (.int .i64 (R : Int)) ∧ w'.cell? ⟨T8, 8, none⟩ = some (.slice At nn ct) ∧ w'.cell? ⟨B9, 0, none⟩ = some (.int .i64 5) ∧ w'.cell? ⟨B9, 1, none⟩ = some (.string ⟨#[]⟩) ∧ w'.cell? ⟨B9, 2, none⟩ = some (.string ⟨#[]⟩) ∧ w'.cell? ⟨B9, 3, none⟩ = some (.string ⟨#[]⟩) ∧ w'.cell? ⟨B9, 4, none⟩ = some (.bool false) ∧ w'.cell? ⟨B9, 5, none⟩ = some (.int .i64 0) ∧ w'.cell? ⟨B9, 6, none⟩ = some (.int .i64 (R : Int)) ∧ w'.cell? ⟨B9, 7, none⟩ = some (.int .i64 (C : Int)) ∧ w'.cell? ⟨B9, 8, none⟩ = some (.slice Ab nn cb) from fun w' h => by
      have h1 := HPVc.out.later h
      have h2 := HPTc.out.later h
      have h3 := HBK.out.later h
      exact ⟨h1.cell 0, h1.cell 1, h1.cell 2, h1.cell 3, h1.cell 4, h1.cell 5, h1.cell 6, h1.cell 7, h1.cell 8, h2.cell 0, h2.cell 1, h2.cell 2, h2.cell 3, h2.cell 4, h2.cell 5, h2.cell 6, h2.cell 7, h2.cell 8, h3.cell 0, h3.cell 1, h3.cell 2, h3.cell 3, h3.cell 4, h3.cell 5, h3.cell 6, h3.cell 7, h3.cell 8⟩)
    have HTT := Lib.hid (show turnL C R (turnL R C us) = us from turn_turn R C us HUL.out)
    have HGT := Lib.hid (hg.turn R C HUL.out)
    obtain ⟨s2, hs2⟩ : ∃ s2, s2 = 0 + C + C := ⟨_, rfl⟩
    obtain ⟨TT, hTT⟩ : ∃ TT, TT = [] ++ (turnL R C us) ++ (turnL R C us) := ⟨_, rfl⟩
    have hTL : TT.length = s2 * R := by rw [hTT, hs2, List.length_append, List.length_append, turnL_len, Nat.add_mul, Nat.add_mul]; simp
    have hgTT : GoodI TT := fun u hu => by
      rw [hTT] at hu
      rcases List.mem_append.1 hu with hu | hu
      · rcases List.mem_append.1 hu with hu | hu
        · cases hu
        · exact HGT.out u hu
      · exact HGT.out u hu
    have HH1 := Lib.hid (show sumR (fun _ => C) 2 = s2 from hs2.symm)
    have HH2 := Lib.hid (show catX (fun _ => (turnL R C us)) 2 = TT from hTT.symm)
    have HH3 := Lib.hid (show sumR (fun i => if i = 0 then C else C) 2 = s2 from hs2.symm)
    have HH4 := Lib.hid (show catX (fun i => if i = 0 then (turnL R C us) else (turnL R C us)) 2 = TT from hTT.symm)
    have HH5 := Lib.hid (show turnL R s2 (turnL s2 R TT) = TT from turn_turn s2 R TT hTL)
    have HGH := Lib.hid (hgTT.turn s2 R hTL)
    have HGN := Lib.hid (show ∀ u ∈ TT, u.n = 0 from fun u hu => (hgTT u hu).2.2)
    have HSB := Lib.hid (show s2 * R ≤ 100000 from by
      have h8 : s2 ≤ 8 := by omega
      have := Nat.mul_le_mul h8 hR
      omega)
    clear hs2 hTT hTL hgTT
    go_upto_region 9 with fail
    refine wp_region_G (S1 := fun w' => w'.cell? ⟨V, 0, none⟩ = some (.int .i64 5) ∧ w'.cell? ⟨V, 1, none⟩ = some (.string ⟨#[]⟩) ∧ w'.cell? ⟨V, 2, none⟩ = some (.string ⟨#[]⟩) ∧ w'.cell? ⟨V, 3, none⟩ = some (.string ⟨#[]⟩) ∧ w'.cell? ⟨V, 4, none⟩ = some (.bool false) ∧ w'.cell? ⟨V, 5, none⟩ = some (.int .i64 0) ∧ w'.cell? ⟨V, 6, none⟩ = some (.int .i64 (R : Int)) ∧ w'.cell? ⟨V, 7, none⟩ = some (.int .i64 (C : Int)) ∧ w'.cell? ⟨V, 8, none⟩ = some (.slice A1 nn cc) ∧ w'.cell? ⟨T8, 0, none⟩ = some (.int .i64 5) ∧ w'.cell? ⟨T8, 1, none⟩ = some (.string ⟨#[]⟩) ∧ w'.cell? ⟨T8, 2, none⟩ = some (.string ⟨#[]⟩) ∧ w'.cell? ⟨T8, 3, none⟩ = some (.string ⟨#[]⟩) ∧ w'.cell? ⟨T8, 4, none⟩ = some (.bool false) ∧ w'.cell? ⟨T8, 5, none⟩ = some (.int .i64 0) ∧ w'.cell? ⟨T8, 6, none⟩ = some (.int .i64 (C : Int)) ∧ w'.cell? ⟨T8, 7, none⟩ = some (.int .i64 (R : Int)) ∧ w'.cell? ⟨T8, 8, none⟩ = some (.slice At nn ct) ∧ w'.cell? ⟨B9, 0, none⟩ = some (.int .i64 5) ∧ w'.cell? ⟨B9, 1, none⟩ = some (.string ⟨#[]⟩) ∧ w'.cell? ⟨B9, 2, none⟩ = some (.string ⟨#[]⟩) ∧ w'.cell? ⟨B9, 3, none⟩ = some (.string ⟨#[]⟩) ∧ w'.cell? ⟨B9, 4, none⟩ = some (.bool false) ∧ w'.cell? ⟨B9, 5, none⟩ = some (.int .i64 0) ∧ w'.cell? ⟨B9, 6, none⟩ = some (.int .i64 (R : Int)) ∧ w'.cell? ⟨B9, 7, none⟩ = some (.int .i64 (C : Int)) ∧ w'.cell? ⟨B9, 8, none⟩ = some (.slice Ab nn cb)) (S2 := fun _ => True) (d := 99) (by kernel_rfl) (HSS.out _ (Below.refl _ wc).drew) trivial (fun hT => ?_)
    refine wpAnyG_take1d (i := 0) (v := ?_) rfl rfl (by kernel_rfl) (by kernel_rfl) (by kernel_rfl) (by kernel_rfl) (fun _ _ _ h => h) (Or.inl ⟨by rfl, ?_⟩) (by assumption) (fun hT => ?_)
    rotate_left
    · intro w hSw
      (try dsimp only at hSw)
      go_simp
      (try with_reducible rfl)
    (try simp only [Act.put, List.setIfInBounds_toArray, List.set_cons_zero, List.set_cons_succ])
    refine wpAnyG_take1d (i := 3) (v := ?_) rfl rfl (by kernel_rfl) (by kernel_rfl) (by kernel_rfl) (by kernel_rfl) (fun _ _ _ h => h) (Or.inl ⟨by rfl, ?_⟩) (by assumption) (fun hT => ?_)
    rotate_left
    · intro w hSw
      (try dsimp only at hSw)
      go_simp
      (try with_reducible rfl)
    (try simp only [Act.put, List.setIfInBounds_toArray, List.set_cons_zero, List.set_cons_succ])
    refine wpAnyG_ready (rs := [1]) (by kernel_rfl) (by simp) ?_
    refine AllG.cons (i := 1) rfl (fun K hK => ?_) AllG.nil
    go_simp
    refine gen_w ?_
    intro v1 hwa
    have HSv1 := Lib.hid (show Below wc.heap.size wc v1 from by rw [hwa]; first | exact below_al wc _ | exact (below_al wc _).drew)
    have HBv1 := Lib.hid (show Reads 9 csV v1 (.slice (some ⟨wc.heap.size, 0, none⟩) 1 1) [(arrU C R At nn ct)] from by rw [hwa]; exact reads_newN wc _ [(arrU C R At nn ct)] rfl)
    clear hwa
    refine hK.out _ _ ⟨HSS.out _ HSv1.out, .inr trivial⟩ (fun hT => ?_)
    clear hK K
    (try simp only [Act.put, List.setIfInBounds_toArray, List.set_cons_zero, List.set_cons_succ])
    refine wpAnyG_ready (rs := [2]) (by kernel_rfl) (by simp) ?_
    refine AllG.cons (i := 2) rfl (fun K hK => ?_) AllG.nil
    go_simp
    go_at_call 7
    (with_reducible refine (look_T v1 (arrU C R At nn ct) (some ⟨wc.heap.size, 0, none⟩) 1 C R (turnL R C us) (HEV.out _ HSv1.out) HBv1.out (HUT.out.below HSv1.out) HGT.out (by omega)).mono ?_)
    rintro e v2 ⟨u', he, har, -, hb⟩
    rw [HTT.out] at har
    obtain ⟨Ad, nd, cd, rfl, hnd, hr⟩ := har.ex
    have he : e = .returned (.agg #[.int .i64 5, .string ⟨#[]⟩, .string ⟨#[]⟩, .string ⟨#[]⟩, .bool false, .int .i64 0, .int .i64 (R : Int), .int .i64 (C : Int), .slice Ad nd cd]) := he
    subst he
    have HSv2 := Lib.hid (show Below v1.heap.size v1 v2 from by first | exact hb | exact (Below.refl _ v1).drew.trans hb)
    have HAd := Lib.hid har
    have HRd := Lib.hid hr
    have HNd := Lib.hid hnd
    clear har hr hb hnd
    obtain rfl : nn = nd := HNN.out.trans HNd.out.symm
    refine hK.out _ _ ⟨HSS.out _ (below_tr HSv1.out HSv2.out), .inr trivial⟩ (fun hT => ?_)
    clear hK K
    (try simp only [Act.put, List.setIfInBounds_toArray, List.set_cons_zero, List.set_cons_succ])
    refine wpAnyG_ready (rs := [4]) (by kernel_rfl) (by simp) ?_
    refine AllG.cons (i := 4) rfl (fun K hK => ?_) AllG.nil
    go_simp
    go_at_call 9
    (with_reducible refine (same_arr R C Ad A1 nn cd cc us v2 HRd.out (HRV.out.below (below_tr HSv1.out HSv2.out)) HGU.out (by omega)).mono ?_)
    rintro e v4 ⟨rfl, hb⟩
    have HSv4 := Lib.hid (show Below v2.heap.size v2 v4 from by first | exact hb | exact (Below.refl _ v2).drew.trans hb)
    clear hb
    refine hK.out _ _ ⟨HSS.out _ (below_tr (below_tr HSv1.out HSv2.out) HSv4.out), .inr trivial⟩ (fun hT => ?_)
    clear hK K
    (try simp only [Act.put, List.setIfInBounds_toArray, List.set_cons_zero, List.set_cons_succ])
    refine wpAnyG_take1d (i := 5) (v := ?_) rfl rfl (by kernel_rfl) (by kernel_rfl) (by kernel_rfl) (by kernel_rfl) (fun _ _ _ h => h) (Or.inl ⟨by rfl, ?_⟩) (by assumption) (fun hT => ?_)
    rotate_left
    · intro w hSw
      (try dsimp only at hSw)
      go_simp
      (try with_reducible rfl)
    (try simp only [Act.put, List.setIfInBounds_toArray, List.set_cons_zero, List.set_cons_succ])
    refine wpAnyG_take1d (i := 6) (v := ?_) rfl rfl (by kernel_rfl) (by kernel_rfl) (by kernel_rfl) (by kernel_rfl) (fun _ _ _ h => h) (Or.inl ⟨by rfl, ?_⟩) (by assumption) (fun hT => ?_)
    rotate_left
    · intro w hSw
      (try dsimp only at hSw)
      go_simp
      (try with_reducible rfl)
    (try simp only [Act.put, List.setIfInBounds_toArray, List.set_cons_zero, List.set_cons_succ])
    refine wpAnyG_take1d (i := 7) (v := ?_) rfl rfl (by kernel_rfl) (by kernel_rfl) (by kernel_rfl) (by kernel_rfl) (fun _ _ _ h => h) (Or.inl ⟨by rfl, ?_⟩) (by assumption) (fun hT => ?_)
    rotate_left
    · intro w hSw
      (try dsimp only at hSw)
      go_simp
      (try with_reducible rfl)
    (try simp only [Act.put, List.setIfInBounds_toArray, List.set_cons_zero, List.set_cons_succ])
    refine wpAnyG_ready (rs := [8]) (by kernel_rfl) (by simp) ?_
    refine AllG.cons (i := 8) rfl (fun K hK => ?_) AllG.nil
    go_simp
    go_at_call 9
    (with_reducible refine (same_arr R C Ab A1 nn cb cc us v4 (HRB.out.below (below_tr (below_tr HSv1.out HSv2.out) HSv4.out)) (HRV.out.below (below_tr (below_tr HSv1.out HSv2.out) HSv4.out)) HGU.out (by omega)).mono ?_)
    rintro e v8 ⟨rfl, hb⟩
    have HSv8 := Lib.hid (show Below v4.heap.size v4 v8 from by first | exact hb | exact (Below.refl _ v4).drew.trans hb)
    clear hb
    refine hK.out _ _ ⟨HSS.out _ (below_tr (below_tr (below_tr HSv1.out HSv2.out) HSv4.out) HSv8.out), .inr trivial⟩ (fun hT => ?_)
    clear hK K
    (try simp only [Act.put, List.setIfInBounds_toArray, List.set_cons_zero, List.set_cons_succ])
    refine wpAnyG_take1d (i := 9) (v := ?_) rfl rfl (by kernel_rfl) (by kernel_rfl) (by kernel_rfl) (by kernel_rfl) (fun _ _ _ h => h) (Or.inl ⟨by rfl, ?_⟩) (by assumption) (fun hT => ?_)
    rotate_left
    · intro w hSw
      (try dsimp only at hSw)
      go_simp
      (try with_reducible rfl)
    (try simp only [Act.put, List.setIfInBounds_toArray, List.set_cons_zero, List.set_cons_succ])
    refine wpAnyG_take1d (i := 10) (v := ?_) rfl rfl (by kernel_rfl) (by kernel_rfl) (by kernel_rfl) (by kernel_rfl) (fun _ _ _ h => h) (Or.inl ⟨by rfl, ?_⟩) (by assumption) (fun hT => ?_)
    rotate_left
    · intro w hSw
      (try dsimp only at hSw)
      go_simp
      (try with_reducible rfl)
    (try simp only [Act.put, List.setIfInBounds_toArray, List.set_cons_zero, List.set_cons_succ])
    refine wpAnyG_take1d (i := 11) (v := ?_) rfl rfl (by kernel_rfl) (by kernel_rfl) (by kernel_rfl) (by kernel_rfl) (fun _ _ _ h => h) (Or.inl ⟨by rfl, ?_⟩) (by assumption) (fun hT => ?_)
    rotate_left
    · intro w hSw
      (try dsimp only at hSw)
      go_simp
      (try with_reducible rfl)
    (try simp only [Act.put, List.setIfInBounds_toArray, List.set_cons_zero, List.set_cons_succ])
    refine wpAnyG_take1d (i := 14) (v := ?_) rfl rfl (by kernel_rfl) (by kernel_rfl) (by kernel_rfl) (by kernel_rfl) (fun _ _ _ h => h) (Or.inl ⟨by rfl, ?_⟩) (by assumption) (fun hT => ?_)
    rotate_left
    · intro w hSw
      (try dsimp only at hSw)
      go_simp
      (try with_reducible rfl)
    (try simp only [Act.put, List.setIfInBounds_toArray, List.set_cons_zero, List.set_cons_succ])
    refine wpAnyG_take1d (i := 15) (v := ?_) rfl rfl (by kernel_rfl) (by kernel_rfl) (by kernel_rfl) (by kernel_rfl) (fun _ _ _ h => h) (Or.inl ⟨by rfl, ?_⟩) (by assumption) (fun hT => ?_)
    rotate_left
    · intro w hSw
      (try dsimp only at hSw)
      go_simp
      (try with_reducible rfl)
    (try simp only [Act.put, List.setIfInBounds_toArray, List.set_cons_zero, List.set_cons_succ])
    refine wpAnyG_take1d (i := 19) (v := ?_) rfl rfl (by kernel_rfl) (by kernel_rfl) (by kernel_rfl) (by kernel_rfl) (fun _ _ _ h => h) (Or.inl ⟨by rfl, ?_⟩) (by assumption) (fun hT => ?_)
    rotate_left
    · intro w hSw
      (try dsimp only at hSw)
      go_simp
      (try with_reducible rfl)
    (try simp only [Act.put, List.setIfInBounds_toArray, List.set_cons_zero, List.set_cons_succ])
    refine wpAnyG_ready (rs := [12]) (by kernel_rfl) (by simp) ?_
    refine AllG.cons (i := 12) rfl (fun K hK => ?_) AllG.nil
    go_simp
    refine gen_w ?_
    intro v12 hwa
    have HSv12 := Lib.hid (show Below v8.heap.size v8 v12 from by rw [hwa]; first | exact below_al v8 _ | exact (below_al v8 _).drew)
    have HBv12 := Lib.hid (show Reads 9 csV v12 (.slice (some ⟨v8.heap.size, 0, none⟩) 1 1) [(arrU R C A1 nn cc)] from by rw [hwa]; exact reads_newN v8 _ [(arrU R C A1 nn cc)] rfl)
    clear hwa
    refine hK.out _ _ ⟨HSS.out _ (below_tr (below_tr (below_tr (below_tr HSv1.out HSv2.out) HSv4.out) HSv8.out) HSv12.out), .inr trivial⟩ (fun hT => ?_)
    clear hK K
    (try simp only [Act.put, List.setIfInBounds_toArray, List.set_cons_zero, List.set_cons_succ])
    refine wpAnyG_ready (rs := [13]) (by kernel_rfl) (by simp) ?_
    refine AllG.cons (i := 13) rfl (fun K hK => ?_) AllG.nil
    go_simp
    go_at_call 7
    (with_reducible refine (look_Tr v12 (arrU R C A1 nn cc) (some ⟨v8.heap.size, 0, none⟩) 1 R C us (HEV.out _ (below_tr (below_tr (below_tr (below_tr HSv1.out HSv2.out) HSv4.out) HSv8.out) HSv12.out)) HBv12.out (HUV.out.below (below_tr (below_tr (below_tr (below_tr HSv1.out HSv2.out) HSv4.out) HSv8.out) HSv12.out)) hg (by rw [← HNN.out]; omega)).mono ?_)
    rintro e v13 ⟨u', he, har, -, hb⟩
    rw [← HNN.out] at har
    obtain ⟨Ae, ne, ce, rfl, hne, hr⟩ := har.ex
    have he : e = .returned (.agg #[.int .i64 5, .string ⟨#[]⟩, .string ⟨#[]⟩, .string ⟨#[]⟩, .bool false, .int .i64 0, .int .i64 (1 : Int), .int .i64 (nn : Int), .slice Ae ne ce]) := he
    subst he
    have HSv13 := Lib.hid (show Below v12.heap.size v12 v13 from by first | exact hb | exact (Below.refl _ v12).drew.trans hb)
    have HAe := Lib.hid har
    have HRe := Lib.hid hr
    have HNe := Lib.hid hne
    clear har hr hb hne
    obtain rfl : nn = ne := by have := HNe.out; omega
    refine hK.out _ _ ⟨HSS.out _ (below_tr (below_tr (below_tr (below_tr (below_tr HSv1.out HSv2.out) HSv4.out) HSv8.out) HSv12.out) HSv13.out), .inr trivial⟩ (fun hT => ?_)
    clear hK K
    (try simp only [Act.put, List.setIfInBounds_toArray, List.set_cons_zero, List.set_cons_succ])
    refine wpAnyG_ready (rs := [16]) (by kernel_rfl) (by simp) ?_
    refine AllG.cons (i := 16) rfl (fun K hK => ?_) AllG.nil
    go_simp
    go_at_call 8
    (with_reducible refine (HWC.out _ (below_tr (below_tr (below_tr (below_tr (below_tr HSv1.out HSv2.out) HSv4.out) HSv8.out) HSv12.out) HSv13.out)).mono ?_)
    rintro e v16 ⟨rfl, hb⟩
    have HSv16 := Lib.hid (show Below v13.heap.size v13 v16 from by first | exact hb | exact (Below.refl _ v13).drew.trans hb)
    clear hb
    refine hK.out _ _ ⟨HSS.out _ (below_tr (below_tr (below_tr (below_tr (below_tr (below_tr HSv1.out HSv2.out) HSv4.out) HSv8.out) HSv12.out) HSv13.out) HSv16.out), .inr trivial⟩ (fun hT => ?_)
    clear hK K
    (try simp only [Act.put, List.setIfInBounds_toArray, List.set_cons_zero, List.set_cons_succ])
    refine wpAnyG_ready (rs := [17]) (by kernel_rfl) (by simp) ?_
    refine AllG.cons (i := 17) rfl (fun K hK => ?_) AllG.nil
    go_simp
    refine gen_w ?_
    intro v17 hwa
    have HSv17 := Lib.hid (show Below v16.heap.size v16 v17 from by rw [hwa]; first | exact below_al v16 _ | exact (below_al v16 _).drew)
    have HBv17 := Lib.hid (show Reads 9 csV v17 (.slice (some ⟨v16.heap.size, 0, none⟩) 2 2) [(arrU 1 nn Ae nn ce), (nV C)] from by rw [hwa]; exact reads_newN v16 _ [(arrU 1 nn Ae nn ce), (nV C)] rfl)
    clear hwa
    refine hK.out _ _ ⟨HSS.out _ (below_tr (below_tr (below_tr (below_tr (below_tr (below_tr (below_tr HSv1.out HSv2.out) HSv4.out) HSv8.out) HSv12.out) HSv13.out) HSv16.out) HSv17.out), .inr trivial⟩ (fun hT => ?_)
    clear hK K
    (try simp only [Act.put, List.setIfInBounds_toArray, List.set_cons_zero, List.set_cons_succ])
    refine wpAnyG_ready (rs := [18]) (by kernel_rfl) (by simp) ?_
    refine AllG.cons (i := 18) rfl (fun K hK => ?_) AllG.nil
    go_simp
    go_at_call 7
    (with_reducible refine (look_Wr v17 (arrU 1 nn Ae nn ce) (some ⟨v16.heap.size, 0, none⟩) 2 nn R C us (HEV.out _ (below_tr (below_tr (below_tr (below_tr (below_tr (below_tr (below_tr HSv1.out HSv2.out) HSv4.out) HSv8.out) HSv12.out) HSv13.out) HSv16.out) HSv17.out)) HBv17.out (HAe.out.below (below_tr HSv16.out HSv17.out)) hg HNN.out r1 hR c1 (by omega) (by omega)).mono ?_)
    rintro e v18 ⟨u', he, har, -, hb⟩
    obtain ⟨Af, nf, cf, rfl, hnf, hr⟩ := har.ex
    have he : e = .returned (.agg #[.int .i64 5, .string ⟨#[]⟩, .string ⟨#[]⟩, .string ⟨#[]⟩, .bool false, .int .i64 0, .int .i64 (R : Int), .int .i64 (C : Int), .slice Af nf cf]) := he
    subst he
    have HSv18 := Lib.hid (show Below v17.heap.size v17 v18 from by first | exact hb | exact (Below.refl _ v17).drew.trans hb)
    have HAf := Lib.hid har
    have HRf := Lib.hid hr
    have HNf := Lib.hid hnf
    clear har hr hb hnf
    obtain rfl : nn = nf := HNN.out.trans HNf.out.symm
    refine hK.out _ _ ⟨HSS.out _ (below_tr (below_tr (below_tr (below_tr (below_tr (below_tr (below_tr (below_tr HSv1.out HSv2.out) HSv4.out) HSv8.out) HSv12.out) HSv13.out) HSv16.out) HSv17.out) HSv18.out), .inr trivial⟩ (fun hT => ?_)
    clear hK K
    (try simp only [Act.put, List.setIfInBounds_toArray, List.set_cons_zero, List.set_cons_succ])
    refine wpAnyG_ready (rs := [20]) (by kernel_rfl) (by simp) ?_
    refine AllG.cons (i := 20) rfl (fun K hK => ?_) AllG.nil
    go_simp
    go_at_call 9
    (with_reducible refine (same_arr R C Af A1 nn cf cc us v18 HRf.out (HRV.out.below (below_tr (below_tr (below_tr (below_tr (below_tr (below_tr (below_tr (below_tr HSv1.out HSv2.out) HSv4.out) HSv8.out) HSv12.out) HSv13.out) HSv16.out) HSv17.out) HSv18.out)) HGU.out (by omega)).mono ?_)
    rintro e v20 ⟨rfl, hb⟩
    have HSv20 := Lib.hid (show Below v18.heap.size v18 v20 from by first | exact hb | exact (Below.refl _ v18).drew.trans hb)
    clear hb
    refine hK.out _ _ ⟨HSS.out _ (below_tr (below_tr (below_tr (below_tr (below_tr (below_tr (below_tr (below_tr (below_tr HSv1.out HSv2.out) HSv4.out) HSv8.out) HSv12.out) HSv13.out) HSv16.out) HSv17.out) HSv18.out) HSv20.out), .inr trivial⟩ (fun hT => ?_)
    clear hK K
    (try simp only [Act.put, List.setIfInBounds_toArray, List.set_cons_zero, List.set_cons_succ])
    refine wpAnyG_take1d (i := 21) (v := ?_) rfl rfl (by kernel_rfl) (by kernel_rfl) (by kernel_rfl) (by kernel_rfl) (fun _ _ _ h => h) (Or.inl ⟨by rfl, ?_⟩) (by assumption) (fun hT => ?_)
    rotate_left
    · intro w hSw
      (try dsimp only at hSw)
      go_simp
      (try with_reducible rfl)
    (try simp only [Act.put, List.setIfInBounds_toArray, List.set_cons_zero, List.set_cons_succ])
    refine wpAnyG_take1d (i := 22) (v := ?_) rfl rfl (by kernel_rfl) (by kernel_rfl) (by kernel_rfl) (by kernel_rfl) (fun _ _ _ h => h) (Or.inl ⟨by rfl, ?_⟩) (by assumption) (fun hT => ?_)
    rotate_left
    · intro w hSw
      (try dsimp only at hSw)
      go_simp
      (try with_reducible rfl)
    (try simp only [Act.put, List.setIfInBounds_toArray, List.set_cons_zero, List.set_cons_succ])
    refine wpAnyG_take1d (i := 23) (v := ?_) rfl rfl (by kernel_rfl) (by kernel_rfl) (by kernel_rfl) (by kernel_rfl) (fun _ _ _ h => h) (Or.inl ⟨by rfl, ?_⟩) (by assumption) (fun hT => ?_)
    rotate_left
    · intro w hSw
      (try dsimp only at hSw)
      go_simp
      (try with_reducible rfl)
    (try simp only [Act.put, List.setIfInBounds_toArray, List.set_cons_zero, List.set_cons_succ])
    refine wpAnyG_take1d (i := 24) (v := ?_) rfl rfl (by kernel_rfl) (by kernel_rfl) (by kernel_rfl) (by kernel_rfl) (fun _ _ _ h => h) (Or.inl ⟨by rfl, ?_⟩) (by assumption) (fun hT => ?_)
    rotate_left
    · intro w hSw
      (try dsimp only at hSw)
      go_simp
      (try with_reducible rfl)
    (try simp only [Act.put, List.setIfInBounds_toArray, List.set_cons_zero, List.set_cons_succ])
    refine wpAnyG_take1d (i := 29) (v := ?_) rfl rfl (by kernel_rfl) (by kernel_rfl) (by kernel_rfl) (by kernel_rfl) (fun _ _ _ h => h) (Or.inl ⟨by rfl, ?_⟩) (by assumption) (fun hT => ?_)
    rotate_left
    · intro w hSw
      (try dsimp only at hSw)
      go_simp
      (try with_reducible rfl)
    (try simp only [Act.put, List.setIfInBounds_toArray, List.set_cons_zero, List.set_cons_succ])
    refine wpAnyG_take1d (i := 30) (v := ?_) rfl rfl (by kernel_rfl) (by kernel_rfl) (by kernel_rfl) (by kernel_rfl) (fun _ _ _ h => h) (Or.inl ⟨by rfl, ?_⟩) (by assumption) (fun hT => ?_)
    rotate_left
    · intro w hSw
      (try dsimp only at hSw)
      go_simp
      (try with_reducible rfl)
    (try simp only [Act.put, List.setIfInBounds_toArray, List.set_cons_zero, List.set_cons_succ])
    refine wpAnyG_ready (rs := [25, 31]) (by kernel_rfl) (by simp) ?_
    refine AllG.cons (i := 25) rfl (fun K hK => ?_) (AllG.cons (i := 31) rfl (fun K hK => ?_) AllG.nil)
    · go_simp
      refine gen_w ?_
      intro v25 hwa
      have HSv25 := Lib.hid (show Below v20.heap.size v20 v25 from by rw [hwa]; first | exact below_al v20 _ | exact (below_al v20 _).drew)
      have HBv25 := Lib.hid (show Reads 9 csV v25 (.slice (some ⟨v20.heap.size, 0, none⟩) 2 2) [(arrU R C A1 nn cc), (arrU R C A1 nn cc)] from by rw [hwa]; exact reads_newN v20 _ [(arrU R C A1 nn cc), (arrU R C A1 nn cc)] rfl)
      clear hwa
      refine hK.out _ _ ⟨HSS.out _ (below_tr (below_tr (below_tr (below_tr (below_tr (below_tr (below_tr (below_tr (below_tr (below_tr HSv1.out HSv2.out) HSv4.out) HSv8.out) HSv12.out) HSv13.out) HSv16.out) HSv17.out) HSv18.out) HSv20.out) HSv25.out), .inr trivial⟩ (fun hT => ?_)
      clear hK K
      (try simp only [Act.put, List.setIfInBounds_toArray, List.set_cons_zero, List.set_cons_succ])
      refine wpAnyG_ready (rs := [26, 31]) (by kernel_rfl) (by simp) ?_
      refine AllG.cons (i := 26) rfl (fun K hK => ?_) (AllG.cons (i := 31) rfl (fun K hK => ?_) AllG.nil)
      · go_simp
        go_at_call 7
        (with_reducible refine (look_Hs v25 (arrU R C A1 nn cc) (some ⟨v20.heap.size, 0, none⟩) 2 R C us (HEV.out _ (below_tr (below_tr (below_tr (below_tr (below_tr (below_tr (below_tr (below_tr (below_tr (below_tr HSv1.out HSv2.out) HSv4.out) HSv8.out) HSv12.out) HSv13.out) HSv16.out) HSv17.out) HSv18.out) HSv20.out) HSv25.out)) (HBv25.out.below (Below.refl _ v25)) (HUV.out.below (below_tr (below_tr (below_tr (below_tr (below_tr (below_tr (below_tr (below_tr (below_tr (below_tr HSv1.out HSv2.out) HSv4.out) HSv8.out) HSv12.out) HSv13.out) HSv16.out) HSv17.out) HSv18.out) HSv20.out) HSv25.out)) hg hR (by omega)).mono ?_)
        rintro e v26 ⟨u', he, har, -, hb⟩
        rw [HH1.out, HH2.out] at har
        obtain ⟨Ah, nh, ch, rfl, hnh, hr⟩ := har.ex
        have he : e = .returned (.agg #[.int .i64 5, .string ⟨#[]⟩, .string ⟨#[]⟩, .string ⟨#[]⟩, .bool false, .int .i64 0, .int .i64 (R : Int), .int .i64 (s2 : Int), .slice Ah nh ch]) := he
        subst he
        have HSv26 := Lib.hid (show Below v25.heap.size v25 v26 from by first | exact hb | exact (Below.refl _ v25).drew.trans hb)
        have HAh := Lib.hid har
        have HRh := Lib.hid hr
        have HNh := Lib.hid hnh
        clear har hr hb hnh
        refine hK.out _ _ ⟨HSS.out _ (below_tr (below_tr (below_tr (below_tr (below_tr (below_tr (below_tr (below_tr (below_tr (below_tr (below_tr HSv1.out HSv2.out) HSv4.out) HSv8.out) HSv12.out) HSv13.out) HSv16.out) HSv17.out) HSv18.out) HSv20.out) HSv25.out) HSv26.out), .inr trivial⟩ (fun hT => ?_)
        clear hK K
        (try simp only [Act.put, List.setIfInBounds_toArray, List.set_cons_zero, List.set_cons_succ])
        refine wpAnyG_ready (rs := [27, 31]) (by kernel_rfl) (by simp) ?_
        refine AllG.cons (i := 27) rfl (fun K hK => ?_) (AllG.cons (i := 31) rfl (fun K hK => ?_) AllG.nil)
        · go_simp
          refine gen_w ?_
          intro v27 hwa
          have HSv27 := Lib.hid (show Below v26.heap.size v26 v27 from by rw [hwa]; first | exact below_al v26 _ | exact (below_al v26 _).drew)
          have HBv27 := Lib.hid (show Reads 9 csV v27 (.slice (some ⟨v26.heap.size, 0, none⟩) 1 1) [(arrU R s2 Ah nh ch)] from by rw [hwa]; exact reads_newN v26 _ [(arrU R s2 Ah nh ch)] rfl)
          clear hwa
          refine hK.out _ _ ⟨HSS.out _ (below_tr (below_tr (below_tr (below_tr (below_tr (below_tr (below_tr (below_tr (below_tr (below_tr (below_tr (below_tr HSv1.out HSv2.out) HSv4.out) HSv8.out) HSv12.out) HSv13.out) HSv16.out) HSv17.out) HSv18.out) HSv20.out) HSv25.out) HSv26.out) HSv27.out), .inr trivial⟩ (fun hT => ?_)
          clear hK K
          (try simp only [Act.put, List.setIfInBounds_toArray, List.set_cons_zero, List.set_cons_succ])
          refine wpAnyG_ready (rs := [28, 31]) (by kernel_rfl) (by simp) ?_
          refine AllG.cons (i := 28) rfl (fun K hK => ?_) (AllG.cons (i := 31) rfl (fun K hK => ?_) AllG.nil)
          · go_simp
            go_at_call 7
            (with_reducible refine (look_T v27 (arrU R s2 Ah nh ch) (some ⟨v26.heap.size, 0, none⟩) 1 R s2 (turnL s2 R TT) (HEV.out _ (below_tr (below_tr (below_tr (below_tr (below_tr (below_tr (below_tr (below_tr (below_tr (below_tr (below_tr (below_tr HSv1.out HSv2.out) HSv4.out) HSv8.out) HSv12.out) HSv13.out) HSv16.out) HSv17.out) HSv18.out) HSv20.out) HSv25.out) HSv26.out) HSv27.out)) (HBv27.out.below (Below.refl _ v27)) (HAh.out.below HSv27.out) HGH.out hR).mono ?_)
            rintro e v28 ⟨u', he, har, -, hb⟩
            rw [HH5.out] at har
            obtain ⟨Ap, np, cp, rfl, hnp, hr⟩ := har.ex
            have he : e = .returned (.agg #[.int .i64 5, .string ⟨#[]⟩, .string ⟨#[]⟩, .string ⟨#[]⟩, .bool false, .int .i64 0, .int .i64 (s2 : Int), .int .i64 (R : Int), .slice Ap np cp]) := he
            subst he
            have HSv28 := Lib.hid (show Below v27.heap.size v27 v28 from by first | exact hb | exact (Below.refl _ v27).drew.trans hb)
            have HAp := Lib.hid har
            have HRp := Lib.hid hr
            have HNp := Lib.hid hnp
            clear har hr hb hnp
            refine hK.out _ _ ⟨HSS.out _ (below_tr (below_tr (below_tr (below_tr (below_tr (below_tr (below_tr (below_tr (below_tr (below_tr (below_tr (below_tr (below_tr HSv1.out HSv2.out) HSv4.out) HSv8.out) HSv12.out) HSv13.out) HSv16.out) HSv17.out) HSv18.out) HSv20.out) HSv25.out) HSv26.out) HSv27.out) HSv28.out), .inr trivial⟩ (fun hT => ?_)
            clear hK K
            (try simp only [Act.put, List.setIfInBounds_toArray, List.set_cons_zero, List.set_cons_succ])
            refine wpAnyG_ready (rs := [31]) (by kernel_rfl) (by simp) ?_
            refine AllG.cons (i := 31) rfl (fun K hK => ?_) AllG.nil
            go_simp
            refine gen_w ?_
            intro v31 hwa
            have HSv31 := Lib.hid (show Below v28.heap.size v28 v31 from by rw [hwa]; first | exact below_al v28 _ | exact (below_al v28 _).drew)
            have HBv31 := Lib.hid (show Reads 9 csV v31 (.slice (some ⟨v28.heap.size, 0, none⟩) 2 2) [(arrU C R At nn ct), (arrU C R At nn ct)] from by rw [hwa]; exact reads_newN v28 _ [(arrU C R At nn ct), (arrU C R At nn ct)] rfl)
            clear hwa
            refine hK.out _ _ ⟨HSS.out _ (below_tr (below_tr (below_tr (below_tr (below_tr (below_tr (below_tr (below_tr (below_tr (below_tr (below_tr (below_tr (below_tr (below_tr HSv1.out HSv2.out) HSv4.out) HSv8.out) HSv12.out) HSv13.out) HSv16.out) HSv17.out) HSv18.out) HSv20.out) HSv25.out) HSv26.out) HSv27.out) HSv28.out) HSv31.out), .inr trivial⟩ (fun hT => ?_)
            clear hK K
            (try simp only [Act.put, List.setIfInBounds_toArray, List.set_cons_zero, List.set_cons_succ])
            refine wpAnyG_ready (rs := [32]) (by kernel_rfl) (by simp) ?_
            refine AllG.cons (i := 32) rfl (fun K hK => ?_) AllG.nil
            go_simp
            go_at_call 7
            (with_reducible refine (look_Vs v31 (arrU C R At nn ct) (arrU C R At nn ct) (some ⟨v28.heap.size, 0, none⟩) 2 C C R (turnL R C us) (turnL R C us) (HEV.out _ (below_tr (below_tr (below_tr (below_tr (below_tr (below_tr (below_tr (below_tr (below_tr (below_tr (below_tr (below_tr (below_tr (below_tr HSv1.out HSv2.out) HSv4.out) HSv8.out) HSv12.out) HSv13.out) HSv16.out) HSv17.out) HSv18.out) HSv20.out) HSv25.out) HSv26.out) HSv27.out) HSv28.out) HSv31.out)) (HBv31.out.below (Below.refl _ v31)) (HUT.out.below (below_tr (below_tr (below_tr (below_tr (below_tr (below_tr (below_tr (below_tr (below_tr (below_tr (below_tr (below_tr (below_tr (below_tr HSv1.out HSv2.out) HSv4.out) HSv8.out) HSv12.out) HSv13.out) HSv16.out) HSv17.out) HSv18.out) HSv20.out) HSv25.out) HSv26.out) HSv27.out) HSv28.out) HSv31.out)) (HUT.out.below (below_tr (below_tr (below_tr (below_tr (below_tr (below_tr (below_tr (below_tr (below_tr (below_tr (below_tr (below_tr (below_tr (below_tr HSv1.out HSv2.out) HSv4.out) HSv8.out) HSv12.out) HSv13.out) HSv16.out) HSv17.out) HSv18.out) HSv20.out) HSv25.out) HSv26.out) HSv27.out) HSv28.out) HSv31.out)) HGT.out HGT.out (by omega)).mono ?_)
            rintro e v32 ⟨u', he, har, -, hb⟩
            rw [HH3.out, HH4.out] at har
            obtain ⟨Aq, nq, cq, rfl, hnq, hr⟩ := har.ex
            have he : e = .returned (.agg #[.int .i64 5, .string ⟨#[]⟩, .string ⟨#[]⟩, .string ⟨#[]⟩, .bool false, .int .i64 0, .int .i64 (s2 : Int), .int .i64 (R : Int), .slice Aq nq cq]) := he
            subst he
            have HSv32 := Lib.hid (show Below v31.heap.size v31 v32 from by first | exact hb | exact (Below.refl _ v31).drew.trans hb)
            have HAq := Lib.hid har
            have HRq := Lib.hid hr
            have HNq := Lib.hid hnq
            clear har hr hb hnq
            obtain rfl : np = nq := HNp.out.trans HNq.out.symm
            refine hK.out _ _ ⟨HSS.out _ (below_tr (below_tr (below_tr (below_tr (below_tr (below_tr (below_tr (below_tr (below_tr (below_tr (below_tr (below_tr (below_tr (below_tr (below_tr HSv1.out HSv2.out) HSv4.out) HSv8.out) HSv12.out) HSv13.out) HSv16.out) HSv17.out) HSv18.out) HSv20.out) HSv25.out) HSv26.out) HSv27.out) HSv28.out) HSv31.out) HSv32.out), .inr trivial⟩ (fun hT => ?_)
            clear hK K
            (try simp only [Act.put, List.setIfInBounds_toArray, List.set_cons_zero, List.set_cons_succ])
            refine wpAnyG_ready (rs := [33]) (by kernel_rfl) (by simp) ?_
            refine AllG.cons (i := 33) rfl (fun K hK => ?_) AllG.nil
            go_simp
            go_at_call 9
            (with_reducible refine (same_arr s2 R Ap Aq np cp cq TT v32 (HRp.out.below (below_tr HSv31.out HSv32.out)) HRq.out HGN.out (by rw [HNp.out]; exact HSB.out)).mono ?_)
            rintro e v33 ⟨rfl, hb⟩
            have HSv33 := Lib.hid (show Below v32.heap.size v32 v33 from by first | exact hb | exact (Below.refl _ v32).drew.trans hb)
            clear hb
            refine hK.out _ _ ⟨HSS.out _ (below_tr (below_tr (below_tr (below_tr (below_tr (below_tr (below_tr (below_tr (below_tr (below_tr (below_tr (below_tr (below_tr (below_tr (below_tr (below_tr HSv1.out HSv2.out) HSv4.out) HSv8.out) HSv12.out) HSv13.out) HSv16.out) HSv17.out) HSv18.out) HSv20.out) HSv25.out) HSv26.out) HSv27.out) HSv28.out) HSv31.out) HSv32.out) HSv33.out), .inr trivial⟩ (fun hT => ?_)
            clear hK K
            (try simp only [Act.put, List.setIfInBounds_toArray, List.set_cons_zero, List.set_cons_succ])
            refine wpAnyG_take1d (i := 34) (v := ?_) rfl rfl (by kernel_rfl) (by kernel_rfl) (by kernel_rfl) (by kernel_rfl) (fun _ _ _ h => h) (Or.inl ⟨by rfl, ?_⟩) (by assumption) (fun hT => ?_)
            rotate_left
            · intro w hSw
              (try dsimp only at hSw)
              go_simp
              (try with_reducible rfl)
            (try simp only [Act.put, List.setIfInBounds_toArray, List.set_cons_zero, List.set_cons_succ])
            refine wpAnyG_take1d (i := 35) (v := ?_) rfl rfl (by kernel_rfl) (by kernel_rfl) (by kernel_rfl) (by kernel_rfl) (fun _ _ _ h => h) (Or.inl ⟨by rfl, ?_⟩) (by assumption) (fun hT => ?_)
            rotate_left
            · intro w hSw
              (try dsimp only at hSw)
              go_simp
              (try with_reducible rfl)
            (try simp only [Act.put, List.setIfInBounds_toArray, List.set_cons_zero, List.set_cons_succ])
            refine wpAnyG_done (by kernel_rfl) ?_ _
            clear hT
            go_wp2_with fail
            go_ret
            exact ⟨rfl, HBW.out.trans ((below_tr (below_tr (below_tr (below_tr (below_tr (below_tr (below_tr (below_tr (below_tr (below_tr (below_tr (below_tr (below_tr (below_tr (below_tr (below_tr HSv1.out HSv2.out) HSv4.out) HSv8.out) HSv12.out) HSv13.out) HSv16.out) HSv17.out) HSv18.out) HSv20.out) HSv25.out) HSv26.out) HSv27.out) HSv28.out) HSv31.out) HSv32.out) HSv33.out).mono HBW.out.size)⟩
          · go_simp
            refine gen_w ?_
            intro v31 hwa
            have HSv31 := Lib.hid (show Below v27.heap.size v27 v31 from by rw [hwa]; first | exact below_al v27 _ | exact (below_al v27 _).drew)
            have HBv31 := Lib.hid (show Reads 9 csV v31 (.slice (some ⟨v27.heap.size, 0, none⟩) 2 2) [(arrU C R At nn ct), (arrU C R At nn ct)] from by rw [hwa]; exact reads_newN v27 _ [(arrU C R At nn ct), (arrU C R At nn ct)] rfl)
            clear hwa
            refine hK.out _ _ ⟨HSS.out _ (below_tr (below_tr (below_tr (below_tr (below_tr (below_tr (below_tr (below_tr (below_tr (below_tr (below_tr (below_tr (below_tr HSv1.out HSv2.out) HSv4.out) HSv8.out) HSv12.out) HSv13.out) HSv16.out) HSv17.out) HSv18.out) HSv20.out) HSv25.out) HSv26.out) HSv27.out) HSv31.out), .inr trivial⟩ (fun hT => ?_)
            clear hK K
            (try simp only [Act.put, List.setIfInBounds_toArray, List.set_cons_zero, List.set_cons_succ])
            refine wpAnyG_ready (rs := [28]) (by kernel_rfl) (by simp) ?_
            refine AllG.cons (i := 28) rfl (fun K hK => ?_) AllG.nil
            go_simp
            go_at_call 7
            (with_reducible refine (look_T v31 (arrU R s2 Ah nh ch) (some ⟨v26.heap.size, 0, none⟩) 1 R s2 (turnL s2 R TT) (HEV.out _ (below_tr (below_tr (below_tr (below_tr (below_tr (below_tr (below_tr (below_tr (below_tr (below_tr (below_tr (below_tr (below_tr HSv1.out HSv2.out) HSv4.out) HSv8.out) HSv12.out) HSv13.out) HSv16.out) HSv17.out) HSv18.out) HSv20.out) HSv25.out) HSv26.out) HSv27.out) HSv31.out)) (HBv27.out.below HSv31.out) (HAh.out.below (below_tr HSv27.out HSv31.out)) HGH.out hR).mono ?_)
            rintro e v28 ⟨u', he, har, -, hb⟩
            rw [HH5.out] at har
            obtain ⟨Ap, np, cp, rfl, hnp, hr⟩ := har.ex
            have he : e = .returned (.agg #[.int .i64 5, .string ⟨#[]⟩, .string ⟨#[]⟩, .string ⟨#[]⟩, .bool false, .int .i64 0, .int .i64 (s2 : Int), .int .i64 (R : Int), .slice Ap np cp]) := he
            subst he
            have HSv28 := Lib.hid (show Below v31.heap.size v31 v28 from by first | exact hb | exact (Below.refl _ v31).drew.trans hb)
            have HAp := Lib.hid har
            have HRp := Lib.hid hr
            have HNp := Lib.hid hnp
            clear har hr hb hnp
            refine hK.out _ _ ⟨HSS.out _ (below_tr (below_tr (below_tr (below_tr (below_tr (below_tr (below_tr (below_tr (below_tr (below_tr (below_tr (below_tr (below_tr (below_tr HSv1.out HSv2.out) HSv4.out) HSv8.out) HSv12.out) HSv13.out) HSv16.out) HSv17.out) HSv18.out) HSv20.out) HSv25.out) HSv26.out) HSv27.out) HSv31.out) HSv28.out), .inr trivial⟩ (fun hT => ?_)
            clear hK K
            (try simp only [Act.put, List.setIfInBounds_toArray, List.set_cons_zero, List.set_cons_succ])
            refine wpAnyG_ready (rs := [32]) (by kernel_rfl) (by simp) ?_
            refine AllG.cons (i := 32) rfl (fun K hK => ?_) AllG.nil
            go_simp
            go_at_call 7
            (with_reducible refine (look_Vs v28 (arrU C R At nn ct) (arrU C R At nn ct) (some ⟨v27.heap.size, 0, none⟩) 2 C C R (turnL R C us) (turnL R C us) (HEV.out _ (below_tr (below_tr (below_tr (below_tr (below_tr (below_tr (below_tr (below_tr (below_tr (below_tr (below_tr (below_tr (below_tr (below_tr HSv1.out HSv2.out) HSv4.out) HSv8.out) HSv12.out) HSv13.out) HSv16.out) HSv17.out) HSv18.out) HSv20.out) HSv25.out) HSv26.out) HSv27.out) HSv31.out) HSv28.out)) (HBv31.out.below HSv28.out) (HUT.out.below (below_tr (below_tr (below_tr (below_tr (below_tr (below_tr (below_tr (below_tr (below_tr (below_tr (below_tr (below_tr (below_tr (below_tr HSv1.out HSv2.out) HSv4.out) HSv8.out) HSv12.out) HSv13.out) HSv16.out) HSv17.out) HSv18.out) HSv20.out) HSv25.out) HSv26.out) HSv27.out) HSv31.out) HSv28.out)) (HUT.out.below (below_tr (below_tr (below_tr (below_tr (below_tr (below_tr (below_tr (below_tr (below_tr (below_tr (below_tr (below_tr (below_tr (below_tr HSv1.out HSv2.out) HSv4.out) HSv8.out) HSv12.out) HSv13.out) HSv16.out) HSv17.out) HSv18.out) HSv20.out) HSv25.out) HSv26.out) HSv27.out) HSv31.out) HSv28.out)) HGT.out HGT.out (by omega)).mono ?_)
            rintro e v32 ⟨u', he, har, -, hb⟩
            rw [HH3.out, HH4.out] at har
            obtain ⟨Aq, nq, cq, rfl, hnq, hr⟩ := har.ex
            have he : e = .returned (.agg #[.int .i64 5, .string ⟨#[]⟩, .string ⟨#[]⟩, .string ⟨#[]⟩, .bool false, .int .i64 0, .int .i64 (s2 : Int), .int .i64 (R : Int), .slice Aq nq cq]) := he
            subst he
            have HSv32 := Lib.hid (show Below v28.heap.size v28 v32 from by first | exact hb | exact (Below.refl _ v28).drew.trans hb)
            have HAq := Lib.hid har
            have HRq := Lib.hid hr
            have HNq := Lib.hid hnq
            clear har hr hb hnq
            obtain rfl : np = nq := HNp.out.trans HNq.out.symm
            refine hK.out _ _ ⟨HSS.out _ (below_tr (below_tr (below_tr (below_tr (below_tr (below_tr (below_tr (below_tr (below_tr (below_tr (below_tr (below_tr (below_tr (below_tr (below_tr HSv1.out HSv2.out) HSv4.out) HSv8.out) HSv12.out) HSv13.out) HSv16.out) HSv17.out) HSv18.out) HSv20.out) HSv25.out) HSv26.out) HSv27.out) HSv31.out) HSv28.out) HSv32.out), .inr trivial⟩ (fun hT => ?_)
            clear hK K
            (try simp only [Act.put, List.setIfInBounds_toArray, List.set_cons_zero, List.set_cons_succ])
            refine wpAnyG_ready (rs := [33]) (by kernel_rfl) (by simp) ?_
            refine AllG.cons (i := 33) rfl (fun K hK => ?_) AllG.nil
            go_simp
            go_at_call 9
            (with_reducible refine (same_arr s2 R Ap Aq np cp cq TT v32 (HRp.out.below HSv32.out) HRq.out HGN.out (by rw [HNp.out]; exact HSB.out)).mono ?_)
            rintro e v33 ⟨rfl, hb⟩
            have HSv33 := Lib.hid (show Below v32.heap.size v32 v33 from by first | exact hb | exact (Below.refl _ v32).drew.trans hb)
            clear hb
            refine hK.out _ _ ⟨HSS.out _ (below_tr (below_tr (below_tr (below_tr (below_tr (below_tr (below_tr (below_tr (below_tr (below_tr (below_tr (below_tr (below_tr (below_tr (below_tr (below_tr HSv1.out HSv2.out) HSv4.out) HSv8.out) HSv12.out) HSv13.out) HSv16.out) HSv17.out) HSv18.out) HSv20.out) HSv25.out) HSv26.out) HSv27.out) HSv31.out) HSv28.out) HSv32.out) HSv33.out), .inr trivial⟩ (fun hT => ?_)
            clear hK K
            (try simp only [Act.put, List.setIfInBounds_toArray, List.set_cons_zero, List.set_cons_succ])
            refine wpAnyG_take1d (i := 34) (v := ?_) rfl rfl (by kernel_rfl) (by kernel_rfl) (by kernel_rfl) (by kernel_rfl) (fun _ _ _ h => h) (Or.inl ⟨by rfl, ?_⟩) (by assumption) (fun hT => ?_)
            rotate_left
            · intro w hSw
              (try dsimp only at hSw)
              go_simp
              (try with_reducible rfl)
            (try simp only [Act.put, List.setIfInBounds_toArray, List.set_cons_zero, List.set_cons_succ])
            refine wpAnyG_take1d (i := 35) (v := ?_) rfl rfl (by kernel_rfl) (by kernel_rfl) (by kernel_rfl) (by kernel_rfl) (fun _ _ _ h => h) (Or.inl ⟨by rfl, ?_⟩) (by assumption) (fun hT => ?_)
            rotate_left
            · intro w hSw
              (try dsimp only at hSw)
              go_simp
              (try with_reducible rfl)
            (try simp only [Act.put, List.setIfInBounds_toArray, List.set_cons_zero, List.set_cons_succ])
            refine wpAnyG_done (by kernel_rfl) ?_ _
            clear hT
            go_wp2_with fail
            go_ret
            exact ⟨rfl, HBW.out.trans ((below_tr (below_tr (below_tr (below_tr (below_tr (below_tr (below_tr (below_tr (below_tr (below_tr (below_tr (below_tr (below_tr (below_tr (below_tr (below_tr HSv1.out HSv2.out) HSv4.out) HSv8.out) HSv12.out) HSv13.out) HSv16.out) HSv17.out) HSv18.out) HSv20.out) HSv25.out) HSv26.out) HSv27.out) HSv31.out) HSv28.out) HSv32.out) HSv33.out).mono HBW.out.size)⟩
        · go_simp
          refine gen_w ?_
          intro v31 hwa
          have HSv31 := Lib.hid (show Below v26.heap.size v26 v31 from by rw [hwa]; first | exact below_al v26 _ | exact (below_al v26 _).drew)
          have HBv31 := Lib.hid (show Reads 9 csV v31 (.slice (some ⟨v26.heap.size, 0, none⟩) 2 2) [(arrU C R At nn ct), (arrU C R At nn ct)] from by rw [hwa]; exact reads_newN v26 _ [(arrU C R At nn ct), (arrU C R At nn ct)] rfl)
          clear hwa
          refine hK.out _ _ ⟨HSS.out _ (below_tr (below_tr (below_tr (below_tr (below_tr (below_tr (below_tr (below_tr (below_tr (below_tr (below_tr (below_tr HSv1.out HSv2.out) HSv4.out) HSv8.out) HSv12.out) HSv13.out) HSv16.out) HSv17.out) HSv18.out) HSv20.out) HSv25.out) HSv26.out) HSv31.out), .inr trivial⟩ (fun hT => ?_)
          clear hK K
          (try simp only [Act.put, List.setIfInBounds_toArray, List.set_cons_zero, List.set_cons_succ])
          refine wpAnyG_ready (rs := [27]) (by kernel_rfl) (by simp) ?_
          refine AllG.cons (i := 27) rfl (fun K hK => ?_) AllG.nil
          go_simp
          refine gen_w ?_
          intro v27 hwa
          have HSv27 := Lib.hid (show Below v31.heap.size v31 v27 from by rw [hwa]; first | exact below_al v31 _ | exact (below_al v31 _).drew)
          have HBv27 := Lib.hid (show Reads 9 csV v27 (.slice (some ⟨v31.heap.size, 0, none⟩) 1 1) [(arrU R s2 Ah nh ch)] from by rw [hwa]; exact reads_newN v31 _ [(arrU R s2 Ah nh ch)] rfl)
          clear hwa
          refine hK.out _ _ ⟨HSS.out _ (below_tr (below_tr (below_tr (below_tr (below_tr (below_tr (below_tr (below_tr (below_tr (below_tr (below_tr (below_tr (below_tr HSv1.out HSv2.out) HSv4.out) HSv8.out) HSv12.out) HSv13.out) HSv16.out) HSv17.out) HSv18.out) HSv20.out) HSv25.out) HSv26.out) HSv31.out) HSv27.out), .inr trivial⟩ (fun hT => ?_)
          clear hK K
          (try simp only [Act.put, List.setIfInBounds_toArray, List.set_cons_zero, List.set_cons_succ])
          refine wpAnyG_ready (rs := [28]) (by kernel_rfl) (by simp) ?_
          refine AllG.cons (i := 28) rfl (fun K hK => ?_) AllG.nil
          go_simp
          go_at_call 7
          (with_reducible refine (look_T v27 (arrU R s2 Ah nh ch) (some ⟨v31.heap.size, 0, none⟩) 1 R s2 (turnL s2 R TT) (HEV.out _ (below_tr (below_tr (below_tr (below_tr (below_tr (below_tr (below_tr (below_tr (below_tr (below_tr (below_tr (below_tr (below_tr HSv1.out HSv2.out) HSv4.out) HSv8.out) HSv12.out) HSv13.out) HSv16.out) HSv17.out) HSv18.out) HSv20.out) HSv25.out) HSv26.out) HSv31.out) HSv27.out)) (HBv27.out.below (Below.refl _ v27)) (HAh.out.below (below_tr HSv31.out HSv27.out)) HGH.out hR).mono ?_)
          rintro e v28 ⟨u', he, har, -, hb⟩
          rw [HH5.out] at har
          obtain ⟨Ap, np, cp, rfl, hnp, hr⟩ := har.ex
          have he : e = .returned (.agg #[.int .i64 5, .string ⟨#[]⟩, .string ⟨#[]⟩, .string ⟨#[]⟩, .bool false, .int .i64 0, .int .i64 (s2 : Int), .int .i64 (R : Int), .slice Ap np cp]) := he
          subst he
          have HSv28 := Lib.hid (show Below v27.heap.size v27 v28 from by first | exact hb | exact (Below.refl _ v27).drew.trans hb)
          have HAp := Lib.hid har
          have HRp := Lib.hid hr
          have HNp := Lib.hid hnp
          clear har hr hb hnp
          refine hK.out _ _ ⟨HSS.out _ (below_tr (below_tr (below_tr (below_tr (below_tr (below_tr (below_tr (below_tr (below_tr (below_tr (below_tr (below_tr (below_tr (below_tr HSv1.out HSv2.out) HSv4.out) HSv8.out) HSv12.out) HSv13.out) HSv16.out) HSv17.out) HSv18.out) HSv20.out) HSv25.out) HSv26.out) HSv31.out) HSv27.out) HSv28.out), .inr trivial⟩ (fun hT => ?_)
          clear hK K
          (try simp only [Act.put, List.setIfInBounds_toArray, List.set_cons_zero, List.set_cons_succ])
          refine wpAnyG_ready (rs := [32]) (by kernel_rfl) (by simp) ?_
          refine AllG.cons (i := 32) rfl (fun K hK => ?_) AllG.nil
          go_simp
          go_at_call 7
          (with_reducible refine (look_Vs v28 (arrU C R At nn ct) (arrU C R At nn ct) (some ⟨v26.heap.size, 0, none⟩) 2 C C R (turnL R C us) (turnL R C us) (HEV.out _ (below_tr (below_tr (below_tr (below_tr (below_tr (below_tr (below_tr (below_tr (below_tr (below_tr (below_tr (below_tr (below_tr (below_tr HSv1.out HSv2.out) HSv4.out) HSv8.out) HSv12.out) HSv13.out) HSv16.out) HSv17.out) HSv18.out) HSv20.out) HSv25.out) HSv26.out) HSv31.out) HSv27.out) HSv28.out)) (HBv31.out.below (below_tr HSv27.out HSv28.out)) (HUT.out.below (below_tr (below_tr (below_tr (below_tr (below_tr (below_tr (below_tr (below_tr (below_tr (below_tr (below_tr (below_tr (below_tr (below_tr HSv1.out HSv2.out) HSv4.out) HSv8.out) HSv12.out) HSv13.out) HSv16.out) HSv17.out) HSv18.out) HSv20.out) HSv25.out) HSv26.out) HSv31.out) HSv27.out) HSv28.out)) (HUT.out.below (below_tr (below_tr (below_tr (below_tr (below_tr (below_tr (below_tr (below_tr (below_tr (below_tr (below_tr (below_tr (below_tr (below_tr HSv1.out HSv2.out) HSv4.out) HSv8.out) HSv12.out) HSv13.out) HSv16.out) HSv17.out) HSv18.out) HSv20.out) HSv25.out) HSv26.out) HSv31.out) HSv27.out) HSv28.out)) HGT.out HGT.out (by omega)).mono ?_)
          rintro e v32 ⟨u', he, har, -, hb⟩
          rw [HH3.out, HH4.out] at har
          obtain ⟨Aq, nq, cq, rfl, hnq, hr⟩ := har.ex
          have he : e = .returned (.agg #[.int .i64 5, .string ⟨#[]⟩, .string ⟨#[]⟩, .string ⟨#[]⟩, .bool false, .int .i64 0, .int .i64 (s2 : Int), .int .i64 (R : Int), .slice Aq nq cq]) := he
          subst he
          have HSv32 := Lib.hid (show Below v28.heap.size v28 v32 from by first | exact hb | exact (Below.refl _ v28).drew.trans hb)
          have HAq := Lib.hid har
          have HRq := Lib.hid hr
          have HNq := Lib.hid hnq
          clear har hr hb hnq
          obtain rfl : np = nq := HNp.out.trans HNq.out.symm
          refine hK.out _ _ ⟨HSS.out _ (below_tr (below_tr (below_tr (below_tr (below_tr (below_tr (below_tr (below_tr (below_tr (below_tr (below_tr (below_tr (below_tr (below_tr (below_tr HSv1.out HSv2.out) HSv4.out) HSv8.out) HSv12.out) HSv13.out) HSv16.out) HSv17.out) HSv18.out) HSv20.out) HSv25.out) HSv26.out) HSv31.out) HSv27.out) HSv28.out) HSv32.out), .inr trivial⟩ (fun hT => ?_)
          clear hK K
          (try simp only [Act.put, List.setIfInBounds_toArray, List.set_cons_zero, List.set_cons_succ])
          refine wpAnyG_ready (rs := [33]) (by kernel_rfl) (by simp) ?_
          refine AllG.cons (i := 33) rfl (fun K hK => ?_) AllG.nil
          go_simp
          go_at_call 9
          (with_reducible refine (same_arr s2 R Ap Aq np cp cq TT v32 (HRp.out.below HSv32.out) HRq.out HGN.out (by rw [HNp.out]; exact HSB.out)).mono ?_)
          rintro e v33 ⟨rfl, hb⟩
          have HSv33 := Lib.hid (show Below v32.heap.size v32 v33 from by first | exact hb | exact (Below.refl _ v32).drew.trans hb)
          clear hb
          refine hK.out _ _ ⟨HSS.out _ (below_tr (below_tr (below_tr (below_tr (below_tr (below_tr (below_tr (below_tr (below_tr (below_tr (below_tr (below_tr (below_tr (below_tr (below_tr (below_tr HSv1.out HSv2.out) HSv4.out) HSv8.out) HSv12.out) HSv13.out) HSv16.out) HSv17.out) HSv18.out) HSv20.out) HSv25.out) HSv26.out) HSv31.out) HSv27.out) HSv28.out) HSv32.out) HSv33.out), .inr trivial⟩ (fun hT => ?_)
          clear hK K
          (try simp only [Act.put, List.setIfInBounds_toArray, List.set_cons_zero, List.set_cons_succ])
          refine wpAnyG_take1d (i := 34) (v := ?_) rfl rfl (by kernel_rfl) (by kernel_rfl) (by kernel_rfl) (by kernel_rfl) (fun _ _ _ h => h) (Or.inl ⟨by rfl, ?_⟩) (by assumption) (fun hT => ?_)
          rotate_left
          · intro w hSw
            (try dsimp only at hSw)
            go_simp
            (try with_reducible rfl)
          (try simp only [Act.put, List.setIfInBounds_toArray, List.set_cons_zero, List.set_cons_succ])
          refine wpAnyG_take1d (i := 35) (v := ?_) rfl rfl (by kernel_rfl) (by kernel_rfl) (by kernel_rfl) (by kernel_rfl) (fun _ _ _ h => h) (Or.inl ⟨by rfl, ?_⟩) (by assumption) (fun hT => ?_)
          rotate_left
          · intro w hSw
            (try dsimp only at hSw)
            go_simp
            (try with_reducible rfl)
          (try simp only [Act.put, List.setIfInBounds_toArray, List.set_cons_zero, List.set_cons_succ])
          refine wpAnyG_done (by kernel_rfl) ?_ _
          clear hT
          go_wp2_with fail
          go_ret
          exact ⟨rfl, HBW.out.trans ((below_tr (below_tr (below_tr (below_tr (below_tr (below_tr (below_tr (below_tr (below_tr (below_tr (below_tr (below_tr (below_tr (below_tr (below_tr (below_tr HSv1.out HSv2.out) HSv4.out) HSv8.out) HSv12.out) HSv13.out) HSv16.out) HSv17.out) HSv18.out) HSv20.out) HSv25.out) HSv26.out) HSv31.out) HSv27.out) HSv28.out) HSv32.out) HSv33.out).mono HBW.out.size)⟩
      · go_simp
        refine gen_w ?_
        intro v31 hwa
        have HSv31 := Lib.hid (show Below v25.heap.size v25 v31 from by rw [hwa]; first | exact below_al v25 _ | exact (below_al v25 _).drew)
        have HBv31 := Lib.hid (show Reads 9 csV v31 (.slice (some ⟨v25.heap.size, 0, none⟩) 2 2) [(arrU C R At nn ct), (arrU C R At nn ct)] from by rw [hwa]; exact reads_newN v25 _ [(arrU C R At nn ct), (arrU C R At nn ct)] rfl)
        clear hwa
        refine hK.out _ _ ⟨HSS.out _ (below_tr (below_tr (below_tr (below_tr (below_tr (below_tr (below_tr (below_tr (below_tr (below_tr (below_tr HSv1.out HSv2.out) HSv4.out) HSv8.out) HSv12.out) HSv13.out) HSv16.out) HSv17.out) HSv18.out) HSv20.out) HSv25.out) HSv31.out), .inr trivial⟩ (fun hT => ?_)
        clear hK K
        (try simp only [Act.put, List.setIfInBounds_toArray, List.set_cons_zero, List.set_cons_succ])
        refine wpAnyG_ready (rs := [26]) (by kernel_rfl) (by simp) ?_
        refine AllG.cons (i := 26) rfl (fun K hK => ?_) AllG.nil
        go_simp
        go_at_call 7
        (with_reducible refine (look_Hs v31 (arrU R C A1 nn cc) (some ⟨v20.heap.size, 0, none⟩) 2 R C us (HEV.out _ (below_tr (below_tr (below_tr (below_tr (below_tr (below_tr (below_tr (below_tr (below_tr (below_tr (below_tr HSv1.out HSv2.out) HSv4.out) HSv8.out) HSv12.out) HSv13.out) HSv16.out) HSv17.out) HSv18.out) HSv20.out) HSv25.out) HSv31.out)) (HBv25.out.below HSv31.out) (HUV.out.below (below_tr (below_tr (below_tr (below_tr (below_tr (below_tr (below_tr (below_tr (below_tr (below_tr (below_tr HSv1.out HSv2.out) HSv4.out) HSv8.out) HSv12.out) HSv13.out) HSv16.out) HSv17.out) HSv18.out) HSv20.out) HSv25.out) HSv31.out)) hg hR (by omega)).mono ?_)
        rintro e v26 ⟨u', he, har, -, hb⟩
        rw [HH1.out, HH2.out] at har
        obtain ⟨Ah, nh, ch, rfl, hnh, hr⟩ := har.ex
        have he : e = .returned (.agg #[.int .i64 5, .string ⟨#[]⟩, .string ⟨#[]⟩, .string ⟨#[]⟩, .bool false, .int .i64 0, .int .i64 (R : Int), .int .i64 (s2 : Int), .slice Ah nh ch]) := he
        subst he
        have HSv26 := Lib.hid (show Below v31.heap.size v31 v26 from by first | exact hb | exact (Below.refl _ v31).drew.trans hb)
        have HAh := Lib.hid har
        have HRh := Lib.hid hr
        have HNh := Lib.hid hnh
        clear har hr hb hnh
        refine hK.out _ _ ⟨HSS.out _ (below_tr (below_tr (below_tr (below_tr (below_tr (below_tr (below_tr (below_tr (below_tr (below_tr (below_tr (below_tr HSv1.out HSv2.out) HSv4.out) HSv8.out) HSv12.out) HSv13.out) HSv16.out) HSv17.out) HSv18.out) HSv20.out) HSv25.out) HSv31.out) HSv26.out), .inr trivial⟩ (fun hT => ?_)
        clear hK K
        (try simp only [Act.put, List.setIfInBounds_toArray, List.set_cons_zero, List.set_cons_succ])
        refine wpAnyG_ready (rs := [27]) (by kernel_rfl) (by simp) ?_
        refine AllG.cons (i := 27) rfl (fun K hK => ?_) AllG.nil
        go_simp
        refine gen_w ?_
        intro v27 hwa
        have HSv27 := Lib.hid (show Below v26.heap.size v26 v27 from by rw [hwa]; first | exact below_al v26 _ | exact (below_al v26 _).drew)
        have HBv27 := Lib.hid (show Reads 9 csV v27 (.slice (some ⟨v26.heap.size, 0, none⟩) 1 1) [(arrU R s2 Ah nh ch)] from by rw [hwa]; exact reads_newN v26 _ [(arrU R s2 Ah nh ch)] rfl)
        clear hwa
        refine hK.out _ _ ⟨HSS.out _ (below_tr (below_tr (below_tr (below_tr (below_tr (below_tr (below_tr (below_tr (below_tr (below_tr (below_tr (below_tr (below_tr HSv1.out HSv2.out) HSv4.out) HSv8.out) HSv12.out) HSv13.out) HSv16.out) HSv17.out) HSv18.out) HSv20.out) HSv25.out) HSv31.out) HSv26.out) HSv27.out), .inr trivial⟩ (fun hT => ?_)
        clear hK K
        (try simp only [Act.put, List.setIfInBounds_toArray, List.set_cons_zero, List.set_cons_succ])
        refine wpAnyG_ready (rs := [28]) (by kernel_rfl) (by simp) ?_
        refine AllG.cons (i := 28) rfl (fun K hK => ?_) AllG.nil
        go_simp
        go_at_call 7
        (with_reducible refine (look_T v27 (arrU R s2 Ah nh ch) (some ⟨v26.heap.size, 0, none⟩) 1 R s2 (turnL s2 R TT) (HEV.out _ (below_tr (below_tr (below_tr (below_tr (below_tr (below_tr (below_tr (below_tr (below_tr (below_tr (below_tr (below_tr (below_tr HSv1.out HSv2.out) HSv4.out) HSv8.out) HSv12.out) HSv13.out) HSv16.out) HSv17.out) HSv18.out) HSv20.out) HSv25.out) HSv31.out) HSv26.out) HSv27.out)) (HBv27.out.below (Below.refl _ v27)) (HAh.out.below HSv27.out) HGH.out hR).mono ?_)
        rintro e v28 ⟨u', he, har, -, hb⟩
        rw [HH5.out] at har
        obtain ⟨Ap, np, cp, rfl, hnp, hr⟩ := har.ex
        have he : e = .returned (.agg #[.int .i64 5, .string ⟨#[]⟩, .string ⟨#[]⟩, .string ⟨#[]⟩, .bool false, .int .i64 0, .int .i64 (s2 : Int), .int .i64 (R : Int), .slice Ap np cp]) := he
        subst he
        have HSv28 := Lib.hid (show Below v27.heap.size v27 v28 from by first | exact hb | exact (Below.refl _ v27).drew.trans hb)
        have HAp := Lib.hid har
        have HRp := Lib.hid hr
        have HNp := Lib.hid hnp
        clear har hr hb hnp
        refine hK.out _ _ ⟨HSS.out _ (below_tr (below_tr (below_tr (below_tr (below_tr (below_tr (below_tr (below_tr (below_tr (below_tr (below_tr (below_tr (below_tr (below_tr HSv1.out HSv2.out) HSv4.out) HSv8.out) HSv12.out) HSv13.out) HSv16.out) HSv17.out) HSv18.out) HSv20.out) HSv25.out) HSv31.out) HSv26.out) HSv27.out) HSv28.out), .inr trivial⟩ (fun hT => ?_)
        clear hK K
        (try simp only [Act.put, List.setIfInBounds_toArray, List.set_cons_zero, List.set_cons_succ])
        refine wpAnyG_ready (rs := [32]) (by kernel_rfl) (by simp) ?_
        refine AllG.cons (i := 32) rfl (fun K hK => ?_) AllG.nil
        go_simp
        go_at_call 7
        (with_reducible refine (look_Vs v28 (arrU C R At nn ct) (arrU C R At nn ct) (some ⟨v25.heap.size, 0, none⟩) 2 C C R (turnL R C us) (turnL R C us) (HEV.out _ (below_tr (below_tr (below_tr (below_tr (below_tr (below_tr (below_tr (below_tr (below_tr (below_tr (below_tr (below_tr (below_tr (below_tr HSv1.out HSv2.out) HSv4.out) HSv8.out) HSv12.out) HSv13.out) HSv16.out) HSv17.out) HSv18.out) HSv20.out) HSv25.out) HSv31.out) HSv26.out) HSv27.out) HSv28.out)) (HBv31.out.below (below_tr (below_tr HSv26.out HSv27.out) HSv28.out)) (HUT.out.below (below_tr (below_tr (below_tr (below_tr (below_tr (below_tr (below_tr (below_tr (below_tr (below_tr (below_tr (below_tr (below_tr (below_tr HSv1.out HSv2.out) HSv4.out) HSv8.out) HSv12.out) HSv13.out) HSv16.out) HSv17.out) HSv18.out) HSv20.out) HSv25.out) HSv31.out) HSv26.out) HSv27.out) HSv28.out)) (HUT.out.below (below_tr (below_tr (below_tr (below_tr (below_tr (below_tr (below_tr (below_tr (below_tr (below_tr (below_tr (below_tr (below_tr (below_tr HSv1.out HSv2.out) HSv4.out) HSv8.out) HSv12.out) HSv13.out) HSv16.out) HSv17.out) HSv18.out) HSv20.out) HSv25.out) HSv31.out) HSv26.out) HSv27.out) HSv28.out)) HGT.out HGT.out (by omega)).mono ?_)
        rintro e v32 ⟨u', he, har, -, hb⟩
        rw [HH3.out, HH4.out] at har
        obtain ⟨Aq, nq, cq, rfl, hnq, hr⟩ := har.ex
        have he : e = .returned (.agg #[.int .i64 5, .string ⟨#[]⟩, .string ⟨#[]⟩, .string ⟨#[]⟩, .bool false, .int .i64 0, .int .i64 (s2 : Int), .int .i64 (R : Int), .slice Aq nq cq]) := he
        subst he
        have HSv32 := Lib.hid (show Below v28.heap.size v28 v32 from by first | exact hb | exact (Below.refl _ v28).drew.trans hb)
        have HAq := Lib.hid har
        have HRq := Lib.hid hr
        have HNq := Lib.hid hnq
        clear har hr hb hnq
        obtain rfl : np = nq := HNp.out.trans HNq.out.symm
        refine hK.out _ _ ⟨HSS.out _ (below_tr (below_tr (below_tr (below_tr (below_tr (below_tr (below_tr (below_tr (below_tr (below_tr (below_tr (below_tr (below_tr (below_tr (below_tr HSv1.out HSv2.out) HSv4.out) HSv8.out) HSv12.out) HSv13.out) HSv16.out) HSv17.out) HSv18.out) HSv20.out) HSv25.out) HSv31.out) HSv26.out) HSv27.out) HSv28.out) HSv32.out), .inr trivial⟩ (fun hT => ?_)
        clear hK K
        (try simp only [Act.put, List.setIfInBounds_toArray, List.set_cons_zero, List.set_cons_succ])
        refine wpAnyG_ready (rs := [33]) (by kernel_rfl) (by simp) ?_
        refine AllG.cons (i := 33) rfl (fun K hK => ?_) AllG.nil
        go_simp
        go_at_call 9
        (with_reducible refine (same_arr s2 R Ap Aq np cp cq TT v32 (HRp.out.below HSv32.out) HRq.out HGN.out (by rw [HNp.out]; exact HSB.out)).mono ?_)
        rintro e v33 ⟨rfl, hb⟩
        have HSv33 := Lib.hid (show Below v32.heap.size v32 v33 from by first | exact hb | exact (Below.refl _ v32).drew.trans hb)
        clear hb
        refine hK.out _ _ ⟨HSS.out _ (below_tr (below_tr (below_tr (below_tr (below_tr (below_tr (below_tr (below_tr (below_tr (below_tr (below_tr (below_tr (below_tr (below_tr (below_tr (below_tr HSv1.out HSv2.out) HSv4.out) HSv8.out) HSv12.out) HSv13.out) HSv16.out) HSv17.out) HSv18.out) HSv20.out) HSv25.out) HSv31.out) HSv26.out) HSv27.out) HSv28.out) HSv32.out) HSv33.out), .inr trivial⟩ (fun hT => ?_)
        clear hK K
        (try simp only [Act.put, List.setIfInBounds_toArray, List.set_cons_zero, List.set_cons_succ])
        refine wpAnyG_take1d (i := 34) (v := ?_) rfl rfl (by kernel_rfl) (by kernel_rfl) (by kernel_rfl) (by kernel_rfl) (fun _ _ _ h => h) (Or.inl ⟨by rfl, ?_⟩) (by assumption) (fun hT => ?_)
        rotate_left
        · intro w hSw
          (try dsimp only at hSw)
          go_simp
          (try with_reducible rfl)
        (try simp only [Act.put, List.setIfInBounds_toArray, List.set_cons_zero, List.set_cons_succ])
        refine wpAnyG_take1d (i := 35) (v := ?_) rfl rfl (by kernel_rfl) (by kernel_rfl) (by kernel_rfl) (by kernel_rfl) (fun _ _ _ h => h) (Or.inl ⟨by rfl, ?_⟩) (by assumption) (fun hT => ?_)
        rotate_left
        · intro w hSw
          (try dsimp only at hSw)
          go_simp
          (try with_reducible rfl)
        (try simp only [Act.put, List.setIfInBounds_toArray, List.set_cons_zero, List.set_cons_succ])
        refine wpAnyG_done (by kernel_rfl) ?_ _
        clear hT
        go_wp2_with fail
        go_ret
        exact ⟨rfl, HBW.out.trans ((below_tr (below_tr (below_tr (below_tr (below_tr (below_tr (below_tr (below_tr (below_tr (below_tr (below_tr (below_tr (below_tr (below_tr (below_tr (below_tr HSv1.out HSv2.out) HSv4.out) HSv8.out) HSv12.out) HSv13.out) HSv16.out) HSv17.out) HSv18.out) HSv20.out) HSv25.out) HSv31.out) HSv26.out) HSv27.out) HSv28.out) HSv32.out) HSv33.out).mono HBW.out.size)⟩
    · go_simp
      refine gen_w ?_
      intro v31 hwa
      have HSv31 := Lib.hid (show Below v20.heap.size v20 v31 from by rw [hwa]; first | exact below_al v20 _ | exact (below_al v20 _).drew)
      have HBv31 := Lib.hid (show Reads 9 csV v31 (.slice (some ⟨v20.heap.size, 0, none⟩) 2 2) [(arrU C R At nn ct), (arrU C R At nn ct)] from by rw [hwa]; exact reads_newN v20 _ [(arrU C R At nn ct), (arrU C R At nn ct)] rfl)
      clear hwa
      refine hK.out _ _ ⟨HSS.out _ (below_tr (below_tr (below_tr (below_tr (below_tr (below_tr (below_tr (below_tr (below_tr (below_tr HSv1.out HSv2.out) HSv4.out) HSv8.out) HSv12.out) HSv13.out) HSv16.out) HSv17.out) HSv18.out) HSv20.out) HSv31.out), .inr trivial⟩ (fun hT => ?_)
      clear hK K
      (try simp only [Act.put, List.setIfInBounds_toArray, List.set_cons_zero, List.set_cons_succ])
      refine wpAnyG_ready (rs := [25]) (by kernel_rfl) (by simp) ?_
      refine AllG.cons (i := 25) rfl (fun K hK => ?_) AllG.nil
      go_simp
      refine gen_w ?_
      intro v25 hwa
      have HSv25 := Lib.hid (show Below v31.heap.size v31 v25 from by rw [hwa]; first | exact below_al v31 _ | exact (below_al v31 _).drew)
      have HBv25 := Lib.hid (show Reads 9 csV v25 (.slice (some ⟨v31.heap.size, 0, none⟩) 2 2) [(arrU R C A1 nn cc), (arrU R C A1 nn cc)] from by rw [hwa]; exact reads_newN v31 _ [(arrU R C A1 nn cc), (arrU R C A1 nn cc)] rfl)
      clear hwa
      refine hK.out _ _ ⟨HSS.out _ (below_tr (below_tr (below_tr (below_tr (below_tr (below_tr (below_tr (below_tr (below_tr (below_tr (below_tr HSv1.out HSv2.out) HSv4.out) HSv8.out) HSv12.out) HSv13.out) HSv16.out) HSv17.out) HSv18.out) HSv20.out) HSv31.out) HSv25.out), .inr trivial⟩ (fun hT => ?_)
      clear hK K
      (try simp only [Act.put, List.setIfInBounds_toArray, List.set_cons_zero, List.set_cons_succ])
      refine wpAnyG_ready (rs := [26]) (by kernel_rfl) (by simp) ?_
      refine AllG.cons (i := 26) rfl (fun K hK => ?_) AllG.nil
      go_simp
      go_at_call 7
      (with_reducible refine (look_Hs v25 (arrU R C A1 nn cc) (some ⟨v31.heap.size, 0, none⟩) 2 R C us (HEV.out _ (below_tr (below_tr (below_tr (below_tr (below_tr (below_tr (below_tr (below_tr (below_tr (below_tr (below_tr HSv1.out HSv2.out) HSv4.out) HSv8.out) HSv12.out) HSv13.out) HSv16.out) HSv17.out) HSv18.out) HSv20.out) HSv31.out) HSv25.out)) (HBv25.out.below (Below.refl _ v25)) (HUV.out.below (below_tr (below_tr (below_tr (below_tr (below_tr (below_tr (below_tr (below_tr (below_tr (below_tr (below_tr HSv1.out HSv2.out) HSv4.out) HSv8.out) HSv12.out) HSv13.out) HSv16.out) HSv17.out) HSv18.out) HSv20.out) HSv31.out) HSv25.out)) hg hR (by omega)).mono ?_)
      rintro e v26 ⟨u', he, har, -, hb⟩
      rw [HH1.out, HH2.out] at har
      obtain ⟨Ah, nh, ch, rfl, hnh, hr⟩ := har.ex
      have he : e = .returned (.agg #[.int .i64 5, .string ⟨#[]⟩, .string ⟨#[]⟩, .string ⟨#[]⟩, .bool false, .int .i64 0, .int .i64 (R : Int), .int .i64 (s2 : Int), .slice Ah nh ch]) := he
      subst he
      have HSv26 := Lib.hid (show Below v25.heap.size v25 v26 from by first | exact hb | exact (Below.refl _ v25).drew.trans hb)
      have HAh := Lib.hid har
      have HRh := Lib.hid hr
      have HNh := Lib.hid hnh
      clear har hr hb hnh
      refine hK.out _ _ ⟨HSS.out _ (below_tr (below_tr (below_tr (below_tr (below_tr (below_tr (below_tr (below_tr (below_tr (below_tr (below_tr (below_tr HSv1.out HSv2.out) HSv4.out) HSv8.out) HSv12.out) HSv13.out) HSv16.out) HSv17.out) HSv18.out) HSv20.out) HSv31.out) HSv25.out) HSv26.out), .inr trivial⟩ (fun hT => ?_)
      clear hK K
      (try simp only [Act.put, List.setIfInBounds_toArray, List.set_cons_zero, List.set_cons_succ])
      refine wpAnyG_ready (rs := [27]) (by kernel_rfl) (by simp) ?_
      refine AllG.cons (i := 27) rfl (fun K hK => ?_) AllG.nil
      go_simp
      refine gen_w ?_
      intro v27 hwa
      have HSv27 := Lib.hid (show Below v26.heap.size v26 v27 from by rw [hwa]; first | exact below_al v26 _ | exact (below_al v26 _).drew)
      have HBv27 := Lib.hid (show Reads 9 csV v27 (.slice (some ⟨v26.heap.size, 0, none⟩) 1 1) [(arrU R s2 Ah nh ch)] from by rw [hwa]; exact reads_newN v26 _ [(arrU R s2 Ah nh ch)] rfl)
      clear hwa
      refine hK.out _ _ ⟨HSS.out _ (below_tr (below_tr (below_tr (below_tr (below_tr (below_tr (below_tr (below_tr (below_tr (below_tr (below_tr (below_tr (below_tr HSv1.out HSv2.out) HSv4.out) HSv8.out) HSv12.out) HSv13.out) HSv16.out) HSv17.out) HSv18.out) HSv20.out) HSv31.out) HSv25.out) HSv26.out) HSv27.out), .inr trivial⟩ (fun hT => ?_)
      clear hK K
      (try simp only [Act.put, List.setIfInBounds_toArray, List.set_cons_zero, List.set_cons_succ])
      refine wpAnyG_ready (rs := [28]) (by kernel_rfl) (by simp) ?_
      refine AllG.cons (i := 28) rfl (fun K hK => ?_) AllG.nil
      go_simp
      go_at_call 7
      (with_reducible refine (look_T v27 (arrU R s2 Ah nh ch) (some ⟨v26.heap.size, 0, none⟩) 1 R s2 (turnL s2 R TT) (HEV.out _ (below_tr (below_tr (below_tr (below_tr (below_tr (below_tr (below_tr (below_tr (below_tr (below_tr (below_tr (below_tr (below_tr HSv1.out HSv2.out) HSv4.out) HSv8.out) HSv12.out) HSv13.out) HSv16.out) HSv17.out) HSv18.out) HSv20.out) HSv31.out) HSv25.out) HSv26.out) HSv27.out)) (HBv27.out.below (Below.refl _ v27)) (HAh.out.below HSv27.out) HGH.out hR).mono ?_)
      rintro e v28 ⟨u', he, har, -, hb⟩
      rw [HH5.out] at har
      obtain ⟨Ap, np, cp, rfl, hnp, hr⟩ := har.ex
      have he : e = .returned (.agg #[.int .i64 5, .string ⟨#[]⟩, .string ⟨#[]⟩, .string ⟨#[]⟩, .bool false, .int .i64 0, .int .i64 (s2 : Int), .int .i64 (R : Int), .slice Ap np cp]) := he
      subst he
      have HSv28 := Lib.hid (show Below v27.heap.size v27 v28 from by first | exact hb | exact (Below.refl _ v27).drew.trans hb)
      have HAp := Lib.hid har
      have HRp := Lib.hid hr
      have HNp := Lib.hid hnp
      clear har hr hb hnp
      refine hK.out _ _ ⟨HSS.out _ (below_tr (below_tr (below_tr (below_tr (below_tr (below_tr (below_tr (below_tr (below_tr (below_tr (below_tr (below_tr (below_tr (below_tr HSv1.out HSv2.out) HSv4.out) HSv8.out) HSv12.out) HSv13.out) HSv16.out) HSv17.out) HSv18.out) HSv20.out) HSv31.out) HSv25.out) HSv26.out) HSv27.out) HSv28.out), .inr trivial⟩ (fun hT => ?_)
      clear hK K
      (try simp only [Act.put, List.setIfInBounds_toArray, List.set_cons_zero, List.set_cons_succ])
      refine wpAnyG_ready (rs := [32]) (by kernel_rfl) (by simp) ?_
      refine AllG.cons (i := 32) rfl (fun K hK => ?_) AllG.nil
      go_simp
      go_at_call 7
      (with_reducible refine (look_Vs v28 (arrU C R At nn ct) (arrU C R At nn ct) (some ⟨v20.heap.size, 0, none⟩) 2 C C R (turnL R C us) (turnL R C us) (HEV.out _ (below_tr (below_tr (below_tr (below_tr (below_tr (below_tr (below_tr (below_tr (below_tr (below_tr (below_tr (below_tr (below_tr (below_tr HSv1.out HSv2.out) HSv4.out) HSv8.out) HSv12.out) HSv13.out) HSv16.out) HSv17.out) HSv18.out) HSv20.out) HSv31.out) HSv25.out) HSv26.out) HSv27.out) HSv28.out)) (HBv31.out.below (below_tr (below_tr (below_tr HSv25.out HSv26.out) HSv27.out) HSv28.out)) (HUT.out.below (below_tr (below_tr (below_tr (below_tr (below_tr (below_tr (below_tr (below_tr (below_tr (below_tr (below_tr (below_tr (below_tr (below_tr HSv1.out HSv2.out) HSv4.out) HSv8.out) HSv12.out) HSv13.out) HSv16.out) HSv17.out) HSv18.out) HSv20.out) HSv31.out) HSv25.out) HSv26.out) HSv27.out) HSv28.out)) (HUT.out.below (below_tr (below_tr (below_tr (below_tr (below_tr (below_tr (below_tr (below_tr (below_tr (below_tr (below_tr (below_tr (below_tr (below_tr HSv1.out HSv2.out) HSv4.out) HSv8.out) HSv12.out) HSv13.out) HSv16.out) HSv17.out) HSv18.out) HSv20.out) HSv31.out) HSv25.out) HSv26.out) HSv27.out) HSv28.out)) HGT.out HGT.out (by omega)).mono ?_)
      rintro e v32 ⟨u', he, har, -, hb⟩
      rw [HH3.out, HH4.out] at har
      obtain ⟨Aq, nq, cq, rfl, hnq, hr⟩ := har.ex
      have he : e = .returned (.agg #[.int .i64 5, .string ⟨#[]⟩, .string ⟨#[]⟩, .string ⟨#[]⟩, .bool false, .int .i64 0, .int .i64 (s2 : Int), .int .i64 (R : Int), .slice Aq nq cq]) := he
      subst he
      have HSv32 := Lib.hid (show Below v28.heap.size v28 v32 from by first | exact hb | exact (Below.refl _ v28).drew.trans hb)
      have HAq := Lib.hid har
      have HRq := Lib.hid hr
      have HNq := Lib.hid hnq
      clear har hr hb hnq
      obtain rfl : np = nq := HNp.out.trans HNq.out.symm
      refine hK.out _ _ ⟨HSS.out _ (below_tr (below_tr (below_tr (below_tr (below_tr (below_tr (below_tr (below_tr (below_tr (below_tr (below_tr (below_tr (below_tr (below_tr (below_tr HSv1.out HSv2.out) HSv4.out) HSv8.out) HSv12.out) HSv13.out) HSv16.out) HSv17.out) HSv18.out) HSv20.out) HSv31.out) HSv25.out) HSv26.out) HSv27.out) HSv28.out) HSv32.out), .inr trivial⟩ (fun hT => ?_)
      clear hK K
      (try simp only [Act.put, List.setIfInBounds_toArray, List.set_cons_zero, List.set_cons_succ])
      refine wpAnyG_ready (rs := [33]) (by kernel_rfl) (by simp) ?_
      refine AllG.cons (i := 33) rfl (fun K hK => ?_) AllG.nil
      go_simp
      go_at_call 9
      (with_reducible refine (same_arr s2 R Ap Aq np cp cq TT v32 (HRp.out.below HSv32.out) HRq.out HGN.out (by rw [HNp.out]; exact HSB.out)).mono ?_)
      rintro e v33 ⟨rfl, hb⟩
      have HSv33 := Lib.hid (show Below v32.heap.size v32 v33 from by first | exact hb | exact (Below.refl _ v32).drew.trans hb)
      clear hb
      refine hK.out _ _ ⟨HSS.out _ (below_tr (below_tr (below_tr (below_tr (below_tr (below_tr (below_tr (below_tr (below_tr (below_tr (below_tr (below_tr (below_tr (below_tr (below_tr (below_tr HSv1.out HSv2.out) HSv4.out) HSv8.out) HSv12.out) HSv13.out) HSv16.out) HSv17.out) HSv18.out) HSv20.out) HSv31.out) HSv25.out) HSv26.out) HSv27.out) HSv28.out) HSv32.out) HSv33.out), .inr trivial⟩ (fun hT => ?_)
      clear hK K
      (try simp only [Act.put, List.setIfInBounds_toArray, List.set_cons_zero, List.set_cons_succ])
      refine wpAnyG_take1d (i := 34) (v := ?_) rfl rfl (by kernel_rfl) (by kernel_rfl) (by kernel_rfl) (by kernel_rfl) (fun _ _ _ h => h) (Or.inl ⟨by rfl, ?_⟩) (by assumption) (fun hT => ?_)
      rotate_left
      · intro w hSw
        (try dsimp only at hSw)
        go_simp
        (try with_reducible rfl)
      (try simp only [Act.put, List.setIfInBounds_toArray, List.set_cons_zero, List.set_cons_succ])
      refine wpAnyG_take1d (i := 35) (v := ?_) rfl rfl (by kernel_rfl) (by kernel_rfl) (by kernel_rfl) (by kernel_rfl) (fun _ _ _ h => h) (Or.inl ⟨by rfl, ?_⟩) (by assumption) (fun hT => ?_)
      rotate_left
      · intro w hSw
        (try dsimp only at hSw)
        go_simp
        (try with_reducible rfl)
      (try simp only [Act.put, List.setIfInBounds_toArray, List.set_cons_zero, List.set_cons_succ])
      refine wpAnyG_done (by kernel_rfl) ?_ _
      clear hT
      go_wp2_with fail
      go_ret
      exact ⟨rfl, HBW.out.trans ((below_tr (below_tr (below_tr (below_tr (below_tr (below_tr (below_tr (below_tr (below_tr (below_tr (below_tr (below_tr (below_tr (below_tr (below_tr (below_tr HSv1.out HSv2.out) HSv4.out) HSv8.out) HSv12.out) HSv13.out) HSv16.out) HSv17.out) HSv18.out) HSv20.out) HSv31.out) HSv25.out) HSv26.out) HSv27.out) HSv28.out) HSv32.out) HSv33.out).mono HBW.out.size)⟩

end Go.Proofs.YtllhefjblipddaaGreatDoor
