/- FlookFindsUnique: the law's walk. -/
import Derived.Test.YtllhefjblipddaaGreatDoorHae
import Derived.Test.YtllhefjblipddaaGreatDoorFlF
import Derived.Test.YtllhefjblipddaaGreatDoorGaj
set_option linter.unusedSimpArgs false
set_option linter.unusedVariables false
namespace Go.Proofs.YtllhefjblipddaaGreatDoor
open Go.RowKit

theorem gen_w {K : Act → World → Prop} {a : Act} {W : World} (h : ∀ wa, wa = W → K a wa) : K a W := h W rfl
/-- The cells of a new slice of values. -/
theorem reads_newN (W : World) (cs : Array Value) (l : List Vl) (h : cs.toList = l.flatMap csV) : Reads 9 csV (W.alloc (.cells cs 27)) (.slice (some ⟨W.heap.size, 0, none⟩) l.length l.length) l :=
  ⟨_, _, rfl, Nat.le_refl _, (fun e => by cases e), fun _ => ⟨W.heap.size, 0, rfl, by simp, fun i hi j hj => by
    have h1 := (Blk.new W 27 cs).cell (0 + (i * 9 + j))
    rw [h1, Nat.zero_add, ← Array.getElem?_toList, h]
    exact flat_get csV 9 csV_len l i j hi hj⟩⟩
theorem ar_reads {W : World} {R' C' R C n c : Nat} {A : Option Addr} {us : List Vl} (h : AR W (arrU R' C' A n c) R C us) : Reads 9 csV W (.slice A n c) us := by
  obtain ⟨A', n', c', e, -, hr⟩ := h.ex
  have e1 : A = A' := congrArg Vl.A e
  have e2 : n = n' := congrArg Vl.n e
  have e3 : c = c' := congrArg Vl.c e
  subst e1 e2 e3
  exact hr
/-- XMATCH of any number: a number, or #N/A. -/
theorem lq_Xw (W : World) (u : Vl) (A : Option Addr) (c R : Nat) (v : Nat → Nat) (s d : ByteArray) (hg : GN s d) (he : VEnv W) (hA : Reads 9 csV W (.slice A 2 c) [qV s d, u]) (hu : AR W u R 1 (nVs R v)) (hv : ∀ i, i < R → v i ≤ 1000) (hR : R ≤ 100) :
    Calls Tryz.prog 7 #[.string ⟨#[88, 77, 65, 84, 67, 72]⟩, .slice A 2 c] W fun e w' => ∃ (kk : Int) (qn qd : ByteArray) (qc : Int), (kk = 1 ∨ (kk = 4 ∧ qc = 6)) ∧ e = .returned (.agg #[.int .i64 kk, .string qn, .string qd, .string ⟨#[]⟩, .bool false, .int .i64 qc, .int .i64 0, .int .i64 0, .slice none 0 0]) ∧ Below W.heap.size W w' := by
  rcases lq_Xz W u A c R v s d hg he hA hu hv hR with h | h
  · exact h.mono fun e w' ⟨m, h1, h2⟩ => ⟨1, nt m, ⟨#[49]⟩, 0, .inl rfl, h1, h2⟩
  · exact h.mono fun e w' ⟨h1, h2⟩ => ⟨4, ⟨#[]⟩, ⟨#[]⟩, 6, .inr ⟨rfl, rfl⟩, h1, h2⟩
/-- Where the law stands. -/
structure FS (w : World) (V U R m : Nat) (A1 Au : Option Addr) (cc cu : Nat) (v vz : Nat → Nat) (w' : World) : Prop where
  ev : VEnv w'
  bel : Below w.heap.size w w'
  pv : Blk w' V 27 #[.int .i64 5, .string ⟨#[]⟩, .string ⟨#[]⟩, .string ⟨#[]⟩, .bool false, .int .i64 0, .int .i64 (R : Int), .int .i64 1, .slice A1 R cc]
  pu : Blk w' U 27 #[.int .i64 5, .string ⟨#[]⟩, .string ⟨#[]⟩, .string ⟨#[]⟩, .bool false, .int .i64 0, .int .i64 (m : Int), .int .i64 1, .slice Au m cu]
  av : AR w' (arrU R 1 A1 R cc) R 1 (nVs R v)
  au : AR w' (arrU m 1 Au m cu) m 1 (nVs m vz)
theorem FS.step {w : World} {V U R m : Nat} {A1 Au : Option Addr} {cc cu : Nat} {v vz : Nat → Nat} {w1 w2 : World} (h : FS w V U R m A1 Au cc cu v vz w1) (hb : Below w1.heap.size w1 w2) : FS w V U R m A1 Au cc cu v vz w2 := ⟨h.ev.below hb, h.bel.trans (hb.mono h.bel.size), h.pv.later hb, h.pu.later hb, h.av.below hb, h.au.below hb⟩
set_option maxRecDepth 100000 in
set_option maxHeartbeats 40000000 in
theorem finds_w (A : Option Addr) (n c : Nat) (Z : List Int) (a1 : Int) (w : World) (he : VEnv w) (hZ : Reads 1 (fun z : Int => [Value.int .i64 z]) w (.slice A n c) Z) (hn : n ≤ 9223372036854775807) (hx : ∀ x ∈ Z, -9223372036854775808 ≤ x ∧ x ≤ 9223372036854775807) (b1 : -9223372036854775808 ≤ a1 ∧ a1 ≤ 9223372036854775807) :
    Calls Tryz.prog 4 #[.slice A n c, .int .i64 a1] w fun e w' => e = .returned (.bool true) ∧ Below w.heap.size w w' := by
  obtain ⟨R, hRR⟩ : ∃ R, R = max 1 (min n 30 / 1) := ⟨_, rfl⟩
  have r1 : 1 ≤ R := by omega
  have hR30 : R ≤ 30 := by
    have : min n 30 / 1 ≤ min n 30 := Nat.div_le_self _ _
    omega
  have hR : R ≤ 100 := by omega
  obtain ⟨v, hv⟩ : ∃ v, v = zAt Z := ⟨_, rfl⟩
  have HVV := Lib.hid (show ∀ i, i < R → v i ≤ 1000 from fun i hi => by rw [hv]; exact zAt_le Z i (by omega))
  have HTB := Lib.hid (show Calls Tryz.prog 5 #[.slice A n c, .int .i64 1] w fun e w' => ∃ b oo cc, e = .returned (.agg #[.int .i64 5, .string ⟨#[]⟩, .string ⟨#[]⟩, .string ⟨#[]⟩, .bool false, .int .i64 0, .int .i64 (R : Int), .int .i64 1, .slice (some ⟨b, oo, none⟩) R cc]) ∧ AR w' (arrU R 1 (some ⟨b, oo, none⟩) R cc) R 1 (nVs R v) ∧ Below w.heap.size w w' from (table_h A n c Z w 1 R he hZ hn hx (by decide) (by decide) hRR).mono fun e w' ⟨u, h1, h2, h3⟩ => by
    rw [show tabU Z (R * 1) = nVs R v from by rw [Nat.mul_one, hv]; rfl] at h2
    obtain ⟨AA, n1, cc, rfl, hn1, h4⟩ := h2.ex
    have hn2 : n1 = R := by rw [hn1, Nat.mul_one]
    subst hn2
    obtain ⟨b, oo, rfl⟩ : ∃ b o, AA = some ⟨b, o, none⟩ := by
      obtain ⟨A', c', e, -, -, h5⟩ := h4
      injection e with e1 e2 e3
      obtain ⟨b, o, e4, -⟩ := h5 (by rw [nVs_len]; omega)
      exact ⟨b, o, e1.trans e4⟩
    exact ⟨b, oo, cc, h1, h2, h3⟩)
  have HNU := Lib.hid fun W' (hW : Below w.heap.size w W') => number_any a1 b1 W' (he.below hW)
  have HWH := Lib.hid (show ∀ W', Below w.heap.size w W' → Calls Tryz.prog 8 #[.int .i64 0] W' fun e w' => e = .returned (.agg #[.int .i64 1, .string (nt 0), .string ⟨#[49]⟩, .string ⟨#[]⟩, .bool false, .int .i64 0, .int .i64 0, .int .i64 0, .slice none 0 0]) ∧ Below W'.heap.size W' w' from fun W' hW => whole_h 0 W' (he.below hW) (by decide))
  have HE := Lib.hid he
  clear hRR hv he hZ hn hx b1
  go_enter Tryz.func4, Tryz.ntmps4
  go_upto_region 2 with (go_at_call 5; (with_reducible refine HTB.out.mono ?_); rintro e w1 ⟨b, oo, cc, rfl, har, hb⟩; have HAR := Lib.hid har; have HB1 := Lib.hid hb; clear har hb)
  have hba := below_al w1 (.cells #[.int .i64 5, .string ⟨#[]⟩, .string ⟨#[]⟩, .string ⟨#[]⟩, .bool false, .int .i64 0, .int .i64 (R : Int), .int .i64 1, .slice (some ⟨b, oo, none⟩) R cc] 27)
  have HPV := Lib.hid (Blk.new w1 27 #[.int .i64 5, .string ⟨#[]⟩, .string ⟨#[]⟩, .string ⟨#[]⟩, .bool false, .int .i64 0, .int .i64 (R : Int), .int .i64 1, .slice (some ⟨b, oo, none⟩) R cc])
  have HA2 := Lib.hid (HAR.out.below hba)
  have HB2 := Lib.hid (HB1.out.trans (hba.mono HB1.out.size))
  clear hba HAR HB1
  revert HPV HA2 HB2
  generalize w1.alloc (.cells #[.int .i64 5, .string ⟨#[]⟩, .string ⟨#[]⟩, .string ⟨#[]⟩, .bool false, .int .i64 0, .int .i64 (R : Int), .int .i64 1, .slice (some ⟨b, oo, none⟩) R cc] 27) = w2
  generalize w1.heap.size = V
  intro HPV HA2 HB2
  have HUN := Lib.hid (show Calls Tryz.prog 7 #[.string ⟨#[85, 78, 73, 81, 85, 69]⟩, .slice (some ⟨w2.heap.size, 0, none⟩) 1 1] (w2.alloc (.cells #[.int .i64 5, .string ⟨#[]⟩, .string ⟨#[]⟩, .string ⟨#[]⟩, .bool false, .int .i64 0, .int .i64 (R : Int), .int .i64 1, .slice (some ⟨b, oo, none⟩) R cc] 27)) fun e w' => ∃ (m : Nat) (vz : Nat → Nat) (A2 : Option Addr) (c2 : Nat), e = .returned (.agg #[.int .i64 5, .string ⟨#[]⟩, .string ⟨#[]⟩, .string ⟨#[]⟩, .bool false, .int .i64 0, .int .i64 (m : Int), .int .i64 1, .slice A2 m c2]) ∧ AR w' (arrU m 1 A2 m c2) m 1 (nVs m vz) ∧ m ≤ 100 ∧ (∀ j, j < m → vz j ≤ 1000) ∧ (∀ i, i < R → ∃ j, j < m ∧ vz j = v i) ∧ Below (w2.alloc (.cells #[.int .i64 5, .string ⟨#[]⟩, .string ⟨#[]⟩, .string ⟨#[]⟩, .bool false, .int .i64 0, .int .i64 (R : Int), .int .i64 1, .slice (some ⟨b, oo, none⟩) R cc] 27)).heap.size (w2.alloc (.cells #[.int .i64 5, .string ⟨#[]⟩, .string ⟨#[]⟩, .string ⟨#[]⟩, .bool false, .int .i64 0, .int .i64 (R : Int), .int .i64 1, .slice (some ⟨b, oo, none⟩) R cc] 27)) w' from by
    have hba := below_al w2 (.cells #[.int .i64 5, .string ⟨#[]⟩, .string ⟨#[]⟩, .string ⟨#[]⟩, .bool false, .int .i64 0, .int .i64 (R : Int), .int .i64 1, .slice (some ⟨b, oo, none⟩) R cc] 27)
    exact lq_U _ (arrU R 1 (some ⟨b, oo, none⟩) R cc) (some ⟨w2.heap.size, 0, none⟩) 1 R v (HE.out.below (HB2.out.trans (hba.mono HB2.out.size))) (reads_newN w2 _ [(arrU R 1 (some ⟨b, oo, none⟩) R cc)] rfl) (HA2.out.below hba) HVV.out hR)
  obtain ⟨e0, e1, e2, e3, e4, e5, e6, e7, e8⟩ := HPV.out.nine
  go_upto_region 3 with (go_at_call 7; (with_reducible refine HUN.out.mono ?_); rintro e w3 ⟨m, vz, Au, cu, rfl, hau, hm, hvz, hcv, hb⟩; have HAU := Lib.hid hau; have HVZ := Lib.hid hvz; have HCV := Lib.hid hcv; have HB3 := Lib.hid hb; clear hau hvz hcv hb)
  clear e0 e1 e2 e3 e4 e5 e6 e7 e8
  have hb23 : Below w2.heap.size w2 w3 := (below_al w2 (.cells #[.int .i64 5, .string ⟨#[]⟩, .string ⟨#[]⟩, .string ⟨#[]⟩, .bool false, .int .i64 0, .int .i64 (R : Int), .int .i64 1, .slice (some ⟨b, oo, none⟩) R cc] 27)).trans (HB3.out.mono (by simp))
  have hba := below_al w3 (.cells #[.int .i64 5, .string ⟨#[]⟩, .string ⟨#[]⟩, .string ⟨#[]⟩, .bool false, .int .i64 0, .int .i64 (m : Int), .int .i64 1, .slice Au m cu] 27)
  have hb24 := hb23.trans (hba.mono hb23.size)
  have HF := Lib.hid (show FS w V w3.heap.size R m (some ⟨b, oo, none⟩) Au cc cu v vz (w3.alloc (.cells #[.int .i64 5, .string ⟨#[]⟩, .string ⟨#[]⟩, .string ⟨#[]⟩, .bool false, .int .i64 0, .int .i64 (m : Int), .int .i64 1, .slice Au m cu] 27)) from ⟨HE.out.below (HB2.out.trans (hb24.mono HB2.out.size)), HB2.out.trans (hb24.mono HB2.out.size), HPV.out.later hb24, Blk.new w3 27 #[.int .i64 5, .string ⟨#[]⟩, .string ⟨#[]⟩, .string ⟨#[]⟩, .bool false, .int .i64 0, .int .i64 (m : Int), .int .i64 1, .slice Au m cu], HA2.out.below hb24, HAU.out.below hba⟩)
  clear hb23 hba hb24 HPV HA2 HB2 HAU HB3 HTB HUN
  revert HF
  generalize w3.alloc (.cells #[.int .i64 5, .string ⟨#[]⟩, .string ⟨#[]⟩, .string ⟨#[]⟩, .bool false, .int .i64 0, .int .i64 (m : Int), .int .i64 1, .slice Au m cu] 27) = w4
  generalize w3.heap.size = U
  intro HF
  obtain ⟨e0, e1, e2, e3, e4, e5, e6, e7, e8⟩ := HF.out.pu.nine
  go_upto_region 5 with fail
  clear e0 e1 e2 e3 e4 e5 e6 e7 e8
  obtain ⟨e0, e1, e2, e3, e4, e5, e6, e7, e8⟩ := HF.out.pv.nine
  go_upto_block 0 with fail
  clear e0 e1 e2 e3 e4 e5 e6 e7 e8
  go_cut [28] (fun u28 wz => Hid (FS w V U R m (some ⟨b, oo, none⟩) Au cc cu v vz wz))
  case first =>
    go_wp2_with fail
    go_loopw [28] (fun u28 wz => ∃ i : Nat, i ≤ R ∧ u28 = .int .i64 (i : Int) ∧ Hid (FS w V U R m (some ⟨b, oo, none⟩) Au cc cu v vz wz)) (fun u _ => R - (intOf u).toNat)
    case atStart => exact ⟨0, by omega, rfl, HF⟩
    case round =>
      clear HF
      obtain ⟨i, hi, rfl, HF⟩ := hrel
      by_cases hlt : i < R
      · have hlz : (i : Int) < (R : Int) := by omega
        have i0 : 0 ≤ (i : Int) := by omega
        have i1 : IntKind.i64.wrap ((i : Int) + 1) = (i : Int) + 1 := IntWalk.i64_in _ (by omega)
        obtain ⟨y, hy⟩ : ∃ y, y = v i := ⟨_, rfl⟩
        have hy1 : y ≤ 1000 := by rw [hy]; exact HVV.out i hlt
        have HSM := Lib.hid fun W' => (show Calls Tryz.prog 9 #[.agg #[.int .i64 1, .string (nt y), .string ⟨#[49]⟩, .string ⟨#[]⟩, .bool false, .int .i64 0, .int .i64 0, .int .i64 0, .slice none 0 0], .agg #[.int .i64 1, .string (nt y), .string ⟨#[49]⟩, .string ⟨#[]⟩, .bool false, .int .i64 0, .int .i64 0, .int .i64 0, .slice none 0 0]] W' fun e w' => e = .returned (.bool true) ∧ Below W'.heap.size W' w' from same_v (nV y) rfl W')
        have HEX := Lib.hid (show ∃ j, j < m ∧ vz j = y from by rw [hy]; exact HCV.out i hlt)
        have HEV := Lib.hid (show ∃ j, j < R ∧ v j = y from ⟨i, hlt, hy.symm⟩)
        have hry : Reads 9 csV wr (.slice (some ⟨b, oo + i * 9, none⟩) 1 (cc - i)) [nV y] := by
          have h := reads_part (ar_reads HF.out.av) (by omega) i 1 (cc - i) (by omega) (by have := reads_cap (ar_reads HF.out.av); omega)
          rw [nVs_at hlt, ← hy] at h
          exact h
        obtain ⟨e0, e1, e2, e3, e4, e5, e6, e7, e8⟩ := (nv_at hry).2 wr (Below.refl _ _)
        clear hry hy
        go_upto_region 8 with fail
        clear e0 e1 e2 e3 e4 e5 e6 e7 e8
        have hba := below_al wr (.cells #[.int .i64 1, .string (nt y), .string ⟨#[49]⟩, .string ⟨#[]⟩, .bool false, .int .i64 0, .int .i64 0, .int .i64 0, .slice none 0 0] 27)
        have HPY := Lib.hid (Blk.new wr 27 #[.int .i64 1, .string (nt y), .string ⟨#[49]⟩, .string ⟨#[]⟩, .bool false, .int .i64 0, .int .i64 0, .int .i64 0, .slice none 0 0])
        have HFp := Lib.hid (HF.out.step hba)
        clear hba
        revert HPY HFp
        generalize wr.alloc (.cells #[.int .i64 1, .string (nt y), .string ⟨#[49]⟩, .string ⟨#[]⟩, .bool false, .int .i64 0, .int .i64 0, .int .i64 0, .slice none 0 0] 27) = wp
        generalize wr.heap.size = Y
        intro HPY HFp
        have HCT := Lib.hid fun w' (h : Below wp.heap.size wp w') => HFp.out.step h
        have HW0 := Lib.hid fun w' (h : Below wp.heap.size wp w') => HWH.out w' (HFp.out.step h).bel
        have HSS := Lib.hid (show ∀ w', Below wp.heap.size wp w' → w'.cell? ⟨Y, 0, none⟩ = some (.int .i64 1) ∧ w'.cell? ⟨Y, 1, none⟩ = some (.string (nt y)) ∧ w'.cell? ⟨Y, 2, none⟩ = some (.string ⟨#[49]⟩) ∧ w'.cell? ⟨Y, 3, none⟩ = some (.string ⟨#[]⟩) ∧ w'.cell? ⟨Y, 4, none⟩ = some (.bool false) ∧ w'.cell? ⟨Y, 5, none⟩ = some (.int .i64 0) ∧ w'.cell? ⟨Y, 6, none⟩ = some (.int .i64 0) ∧ w'.cell? ⟨Y, 7, none⟩ = some (.int .i64 0) ∧ w'.cell? ⟨Y, 8, none⟩ = some (.slice none 0 0) ∧ w'.cell? ⟨U, 0, none⟩ = some (.int .i64 5) ∧ w'.cell? ⟨U, 1, none⟩ = some (.string ⟨#[]⟩) ∧ w'.cell? ⟨U, 2, none⟩ = some (.string ⟨#[]⟩) ∧ w'.cell? ⟨U, 3, none⟩ = some (.string ⟨#[]⟩) ∧ w'.cell? ⟨U, 4, none⟩ = some (.bool false) ∧ w'.cell? ⟨U, 5, none⟩ = some (.int .i64 0) ∧ w'.cell? ⟨U, 6, none⟩ = some (.int .i64 (m : Int)) ∧ w'.cell? ⟨U, 7, none⟩ = some (.int .i64 1) ∧ w'.cell? ⟨U, 8, none⟩ = some (.slice Au m cu) from fun w' h => ⟨(HPY.out.later h).cell 0, (HPY.out.later h).cell 1, (HPY.out.later h).cell 2, (HPY.out.later h).cell 3, (HPY.out.later h).cell 4, (HPY.out.later h).cell 5, (HPY.out.later h).cell 6, (HPY.out.later h).cell 7, (HPY.out.later h).cell 8, (HFp.out.pu.later h).cell 0, (HFp.out.pu.later h).cell 1, (HFp.out.pu.later h).cell 2, (HFp.out.pu.later h).cell 3, (HFp.out.pu.later h).cell 4, (HFp.out.pu.later h).cell 5, (HFp.out.pu.later h).cell 6, (HFp.out.pu.later h).cell 7, (HFp.out.pu.later h).cell 8⟩)
        go_cut [9] (fun u9 wz => ∃ (P x : Nat), u9 = .pointer (some ⟨P, 0, none⟩) ∧ (x < m ∧ vz x = y) ∧ Hid (Blk wz P 27 #[.int .i64 1, .string (nt (x + 1)), .string ⟨#[49]⟩, .string ⟨#[]⟩, .bool false, .int .i64 0, .int .i64 0, .int .i64 0, .slice none 0 0]) ∧ Hid (Below wp.heap.size wp wz))
        case first =>
          refine wp_region_G (S1 := fun w' => w'.cell? ⟨Y, 0, none⟩ = some (.int .i64 1) ∧ w'.cell? ⟨Y, 1, none⟩ = some (.string (nt y)) ∧ w'.cell? ⟨Y, 2, none⟩ = some (.string ⟨#[49]⟩) ∧ w'.cell? ⟨Y, 3, none⟩ = some (.string ⟨#[]⟩) ∧ w'.cell? ⟨Y, 4, none⟩ = some (.bool false) ∧ w'.cell? ⟨Y, 5, none⟩ = some (.int .i64 0) ∧ w'.cell? ⟨Y, 6, none⟩ = some (.int .i64 0) ∧ w'.cell? ⟨Y, 7, none⟩ = some (.int .i64 0) ∧ w'.cell? ⟨Y, 8, none⟩ = some (.slice none 0 0) ∧ w'.cell? ⟨U, 0, none⟩ = some (.int .i64 5) ∧ w'.cell? ⟨U, 1, none⟩ = some (.string ⟨#[]⟩) ∧ w'.cell? ⟨U, 2, none⟩ = some (.string ⟨#[]⟩) ∧ w'.cell? ⟨U, 3, none⟩ = some (.string ⟨#[]⟩) ∧ w'.cell? ⟨U, 4, none⟩ = some (.bool false) ∧ w'.cell? ⟨U, 5, none⟩ = some (.int .i64 0) ∧ w'.cell? ⟨U, 6, none⟩ = some (.int .i64 (m : Int)) ∧ w'.cell? ⟨U, 7, none⟩ = some (.int .i64 1) ∧ w'.cell? ⟨U, 8, none⟩ = some (.slice Au m cu)) (S2 := fun _ => True) (d := 99) (by kernel_rfl) (HSS.out _ (Below.refl _ wp).drew) trivial (fun hT => ?_)
          refine wpAnyG_take1d (i := 0) (v := ?_) rfl rfl (by kernel_rfl) (by kernel_rfl) (by kernel_rfl) (by kernel_rfl) (fun _ _ _ h => h) (Or.inl ⟨by rfl, ?_⟩) (by assumption) (fun hT => ?_)
          rotate_left
          · intro w hSw
            (try dsimp only at hSw)
            go_simp
            (try with_reducible rfl)
          (try simp only [Act.put, List.setIfInBounds_toArray, List.set_cons_zero, List.set_cons_succ])
          refine wpAnyG_take1d (i := 1) (v := ?_) rfl rfl (by kernel_rfl) (by kernel_rfl) (by kernel_rfl) (by kernel_rfl) (fun _ _ _ h => h) (Or.inl ⟨by rfl, ?_⟩) (by assumption) (fun hT => ?_)
          rotate_left
          · intro w hSw
            (try dsimp only at hSw)
            go_simp
            (try with_reducible rfl)
          (try simp only [Act.put, List.setIfInBounds_toArray, List.set_cons_zero, List.set_cons_succ])
          refine wpAnyG_ready (rs := [2, 5]) (by kernel_rfl) (by simp) ?_
          refine AllG.cons (i := 2) rfl (fun K hK => ?_) (AllG.cons (i := 5) rfl (fun K hK => ?_) AllG.nil)
          · go_simp
            go_at_call 8
            (with_reducible refine (HW0.out _ (by first | exact Below.refl _ wp | exact (Below.refl _ wp).drew)).mono ?_)
            rintro e a2 ⟨rfl, hb⟩
            have HSa2 := Lib.hid (show Below wp.heap.size wp a2 from by first | exact hb | exact (Below.refl _ wp).drew.trans hb)
            clear hb
            refine hK.out _ _ ⟨HSS.out _ HSa2.out, .inr trivial⟩ (fun hT => ?_)
            clear hK K
            (try simp only [Act.put, List.setIfInBounds_toArray, List.set_cons_zero, List.set_cons_succ])
            refine wpAnyG_ready (rs := [3, 5]) (by kernel_rfl) (by simp) ?_
            refine AllG.cons (i := 3) rfl (fun K hK => ?_) (AllG.cons (i := 5) rfl (fun K hK => ?_) AllG.nil)
            · go_simp
              refine gen_w ?_
              intro a3 hwa
              have HSa3 := Lib.hid (show Below a2.heap.size a2 a3 from by rw [hwa]; first | exact below_al a2 _ | exact (below_al a2 _).drew)
              have HBa3 := Lib.hid (show Reads 9 csV a3 (.slice (some ⟨a2.heap.size, 0, none⟩) 3 3) [(nV y), (arrU m 1 Au m cu), (nV 0)] from by rw [hwa]; exact reads_newN a2 _ [(nV y), (arrU m 1 Au m cu), (nV 0)] rfl)
              clear hwa
              refine hK.out _ _ ⟨HSS.out _ (below_tr HSa2.out HSa3.out), .inr trivial⟩ (fun hT => ?_)
              clear hK K
              (try simp only [Act.put, List.setIfInBounds_toArray, List.set_cons_zero, List.set_cons_succ])
              refine wpAnyG_ready (rs := [4, 5]) (by kernel_rfl) (by simp) ?_
              refine AllG.cons (i := 4) rfl (fun K hK => ?_) (AllG.cons (i := 5) rfl (fun K hK => ?_) AllG.nil)
              · go_simp
                go_at_call 7
                (with_reducible refine (lq_Ma a3 (arrU m 1 Au m cu) (some ⟨a2.heap.size, 0, none⟩) 3 m vz y hy1 HEX.out (HCT.out _ (below_tr HSa2.out HSa3.out)).ev (HBa3.out.below (Below.refl _ a3)) (HCT.out _ (below_tr HSa2.out HSa3.out)).au HVZ.out hm).mono ?_)
                rintro e a4 ⟨x, hx, rfl, hb⟩
                have HSa4 := Lib.hid (show Below a3.heap.size a3 a4 from by first | exact hb | exact (Below.refl _ a3).drew.trans hb)
                clear hb
                have HX := Lib.hid hx
                clear hx
                refine hK.out _ _ ⟨HSS.out _ (below_tr (below_tr HSa2.out HSa3.out) HSa4.out), .inr trivial⟩ (fun hT => ?_)
                clear hK K
                (try simp only [Act.put, List.setIfInBounds_toArray, List.set_cons_zero, List.set_cons_succ])
                refine wpAnyG_ready (rs := [5]) (by kernel_rfl) (by simp) ?_
                refine AllG.cons (i := 5) rfl (fun K hK => ?_) AllG.nil
                go_simp
                refine gen_w ?_
                intro bx hwa
                have HSbx := Lib.hid (show Below a4.heap.size a4 bx from by rw [hwa]; first | exact below_al a4 _ | exact (below_al a4 _).drew)
                have HZbx := Lib.hid (show Blk bx a4.heap.size 27 #[.int .i64 0, .string ⟨#[]⟩, .string ⟨#[]⟩, .string ⟨#[]⟩, .bool false, .int .i64 0, .int .i64 0, .int .i64 0, .slice none 0 0] from by rw [hwa]; exact Blk.new a4 27 #[.int .i64 0, .string ⟨#[]⟩, .string ⟨#[]⟩, .string ⟨#[]⟩, .bool false, .int .i64 0, .int .i64 0, .int .i64 0, .slice none 0 0])
                clear hwa
                refine hK.out _ _ ⟨HSS.out _ (below_tr (below_tr (below_tr HSa2.out HSa3.out) HSa4.out) HSbx.out), .inr trivial⟩ (fun hT => ?_)
                clear hK K
                (try simp only [Act.put, List.setIfInBounds_toArray, List.set_cons_zero, List.set_cons_succ])
                refine wpAnyG_ready (rs := [6]) (by kernel_rfl) (by simp) ?_
                refine AllG.cons (i := 6) rfl (fun K hK => ?_) AllG.nil
                have HZ9 := Lib.hid (HZbx.out.later (Below.refl _ bx))
                obtain ⟨z0, z1, z2, z3, z4, z5, z6, z7, z8⟩ := HZ9.out.nine
                obtain ⟨f0, f1, f2, f3, f4, f5, f6, f7, f8⟩ := HZ9.out.ninef
                go_simp
                have HT9 := Lib.hid (HZ9.out.nine_set (.int .i64 1) (.string (nt (x + 1))) (.string ⟨#[49]⟩) (.string ⟨#[]⟩) (.bool false) (.int .i64 0) (.int .i64 0) (.int .i64 0) (.slice none 0 0)).1
                have HE9 := Lib.hid (below_nine (below_tr (below_tr (below_tr HSa2.out HSa3.out) HSa4.out) HSbx.out) (show wp.heap.size ≤ a4.heap.size from ((below_tr (below_tr HSa2.out HSa3.out) HSa4.out)).size) (.int .i64 1) (.string (nt (x + 1))) (.string ⟨#[49]⟩) (.string ⟨#[]⟩) (.bool false) (.int .i64 0) (.int .i64 0) (.int .i64 0) (.slice none 0 0))
                refine hK.out _ _ ⟨HSS.out _ HE9.out, .inr trivial⟩ (fun hT => ?_)
                clear hK K
                (try simp only [Act.put, List.setIfInBounds_toArray, List.set_cons_zero, List.set_cons_succ])
                refine wpAnyG_done (by kernel_rfl) ?_ _
                clear z0 z1 z2 z3 z4 z5 z6 z7 z8 f0 f1 f2 f3 f4 f5 f6 f7 f8
                go_wp2_with fail
                go_meet
                exact ⟨a4.heap.size, x, rfl, HX.out, HT9, HE9⟩
              · go_simp
                refine gen_w ?_
                intro bx hwa
                have HSbx := Lib.hid (show Below a3.heap.size a3 bx from by rw [hwa]; first | exact below_al a3 _ | exact (below_al a3 _).drew)
                have HZbx := Lib.hid (show Blk bx a3.heap.size 27 #[.int .i64 0, .string ⟨#[]⟩, .string ⟨#[]⟩, .string ⟨#[]⟩, .bool false, .int .i64 0, .int .i64 0, .int .i64 0, .slice none 0 0] from by rw [hwa]; exact Blk.new a3 27 #[.int .i64 0, .string ⟨#[]⟩, .string ⟨#[]⟩, .string ⟨#[]⟩, .bool false, .int .i64 0, .int .i64 0, .int .i64 0, .slice none 0 0])
                clear hwa
                refine hK.out _ _ ⟨HSS.out _ (below_tr (below_tr HSa2.out HSa3.out) HSbx.out), .inr trivial⟩ (fun hT => ?_)
                clear hK K
                (try simp only [Act.put, List.setIfInBounds_toArray, List.set_cons_zero, List.set_cons_succ])
                refine wpAnyG_ready (rs := [4]) (by kernel_rfl) (by simp) ?_
                refine AllG.cons (i := 4) rfl (fun K hK => ?_) AllG.nil
                go_simp
                go_at_call 7
                (with_reducible refine (lq_Ma bx (arrU m 1 Au m cu) (some ⟨a2.heap.size, 0, none⟩) 3 m vz y hy1 HEX.out (HCT.out _ (below_tr (below_tr HSa2.out HSa3.out) HSbx.out)).ev (HBa3.out.below HSbx.out) (HCT.out _ (below_tr (below_tr HSa2.out HSa3.out) HSbx.out)).au HVZ.out hm).mono ?_)
                rintro e a4 ⟨x, hx, rfl, hb⟩
                have HSa4 := Lib.hid (show Below bx.heap.size bx a4 from by first | exact hb | exact (Below.refl _ bx).drew.trans hb)
                clear hb
                have HX := Lib.hid hx
                clear hx
                refine hK.out _ _ ⟨HSS.out _ (below_tr (below_tr (below_tr HSa2.out HSa3.out) HSbx.out) HSa4.out), .inr trivial⟩ (fun hT => ?_)
                clear hK K
                (try simp only [Act.put, List.setIfInBounds_toArray, List.set_cons_zero, List.set_cons_succ])
                refine wpAnyG_ready (rs := [6]) (by kernel_rfl) (by simp) ?_
                refine AllG.cons (i := 6) rfl (fun K hK => ?_) AllG.nil
                have HZ9 := Lib.hid (HZbx.out.later HSa4.out)
                obtain ⟨z0, z1, z2, z3, z4, z5, z6, z7, z8⟩ := HZ9.out.nine
                obtain ⟨f0, f1, f2, f3, f4, f5, f6, f7, f8⟩ := HZ9.out.ninef
                go_simp
                have HT9 := Lib.hid (HZ9.out.nine_set (.int .i64 1) (.string (nt (x + 1))) (.string ⟨#[49]⟩) (.string ⟨#[]⟩) (.bool false) (.int .i64 0) (.int .i64 0) (.int .i64 0) (.slice none 0 0)).1
                have HE9 := Lib.hid (below_nine (below_tr (below_tr (below_tr HSa2.out HSa3.out) HSbx.out) HSa4.out) (show wp.heap.size ≤ a3.heap.size from ((below_tr HSa2.out HSa3.out)).size) (.int .i64 1) (.string (nt (x + 1))) (.string ⟨#[49]⟩) (.string ⟨#[]⟩) (.bool false) (.int .i64 0) (.int .i64 0) (.int .i64 0) (.slice none 0 0))
                refine hK.out _ _ ⟨HSS.out _ HE9.out, .inr trivial⟩ (fun hT => ?_)
                clear hK K
                (try simp only [Act.put, List.setIfInBounds_toArray, List.set_cons_zero, List.set_cons_succ])
                refine wpAnyG_done (by kernel_rfl) ?_ _
                clear z0 z1 z2 z3 z4 z5 z6 z7 z8 f0 f1 f2 f3 f4 f5 f6 f7 f8
                go_wp2_with fail
                go_meet
                exact ⟨a3.heap.size, x, rfl, HX.out, HT9, HE9⟩
            · go_simp
              refine gen_w ?_
              intro bx hwa
              have HSbx := Lib.hid (show Below a2.heap.size a2 bx from by rw [hwa]; first | exact below_al a2 _ | exact (below_al a2 _).drew)
              have HZbx := Lib.hid (show Blk bx a2.heap.size 27 #[.int .i64 0, .string ⟨#[]⟩, .string ⟨#[]⟩, .string ⟨#[]⟩, .bool false, .int .i64 0, .int .i64 0, .int .i64 0, .slice none 0 0] from by rw [hwa]; exact Blk.new a2 27 #[.int .i64 0, .string ⟨#[]⟩, .string ⟨#[]⟩, .string ⟨#[]⟩, .bool false, .int .i64 0, .int .i64 0, .int .i64 0, .slice none 0 0])
              clear hwa
              refine hK.out _ _ ⟨HSS.out _ (below_tr HSa2.out HSbx.out), .inr trivial⟩ (fun hT => ?_)
              clear hK K
              (try simp only [Act.put, List.setIfInBounds_toArray, List.set_cons_zero, List.set_cons_succ])
              refine wpAnyG_ready (rs := [3]) (by kernel_rfl) (by simp) ?_
              refine AllG.cons (i := 3) rfl (fun K hK => ?_) AllG.nil
              go_simp
              refine gen_w ?_
              intro a3 hwa
              have HSa3 := Lib.hid (show Below bx.heap.size bx a3 from by rw [hwa]; first | exact below_al bx _ | exact (below_al bx _).drew)
              have HBa3 := Lib.hid (show Reads 9 csV a3 (.slice (some ⟨bx.heap.size, 0, none⟩) 3 3) [(nV y), (arrU m 1 Au m cu), (nV 0)] from by rw [hwa]; exact reads_newN bx _ [(nV y), (arrU m 1 Au m cu), (nV 0)] rfl)
              clear hwa
              refine hK.out _ _ ⟨HSS.out _ (below_tr (below_tr HSa2.out HSbx.out) HSa3.out), .inr trivial⟩ (fun hT => ?_)
              clear hK K
              (try simp only [Act.put, List.setIfInBounds_toArray, List.set_cons_zero, List.set_cons_succ])
              refine wpAnyG_ready (rs := [4]) (by kernel_rfl) (by simp) ?_
              refine AllG.cons (i := 4) rfl (fun K hK => ?_) AllG.nil
              go_simp
              go_at_call 7
              (with_reducible refine (lq_Ma a3 (arrU m 1 Au m cu) (some ⟨bx.heap.size, 0, none⟩) 3 m vz y hy1 HEX.out (HCT.out _ (below_tr (below_tr HSa2.out HSbx.out) HSa3.out)).ev (HBa3.out.below (Below.refl _ a3)) (HCT.out _ (below_tr (below_tr HSa2.out HSbx.out) HSa3.out)).au HVZ.out hm).mono ?_)
              rintro e a4 ⟨x, hx, rfl, hb⟩
              have HSa4 := Lib.hid (show Below a3.heap.size a3 a4 from by first | exact hb | exact (Below.refl _ a3).drew.trans hb)
              clear hb
              have HX := Lib.hid hx
              clear hx
              refine hK.out _ _ ⟨HSS.out _ (below_tr (below_tr (below_tr HSa2.out HSbx.out) HSa3.out) HSa4.out), .inr trivial⟩ (fun hT => ?_)
              clear hK K
              (try simp only [Act.put, List.setIfInBounds_toArray, List.set_cons_zero, List.set_cons_succ])
              refine wpAnyG_ready (rs := [6]) (by kernel_rfl) (by simp) ?_
              refine AllG.cons (i := 6) rfl (fun K hK => ?_) AllG.nil
              have HZ9 := Lib.hid (HZbx.out.later (below_tr HSa3.out HSa4.out))
              obtain ⟨z0, z1, z2, z3, z4, z5, z6, z7, z8⟩ := HZ9.out.nine
              obtain ⟨f0, f1, f2, f3, f4, f5, f6, f7, f8⟩ := HZ9.out.ninef
              go_simp
              have HT9 := Lib.hid (HZ9.out.nine_set (.int .i64 1) (.string (nt (x + 1))) (.string ⟨#[49]⟩) (.string ⟨#[]⟩) (.bool false) (.int .i64 0) (.int .i64 0) (.int .i64 0) (.slice none 0 0)).1
              have HE9 := Lib.hid (below_nine (below_tr (below_tr (below_tr HSa2.out HSbx.out) HSa3.out) HSa4.out) (show wp.heap.size ≤ a2.heap.size from (HSa2.out).size) (.int .i64 1) (.string (nt (x + 1))) (.string ⟨#[49]⟩) (.string ⟨#[]⟩) (.bool false) (.int .i64 0) (.int .i64 0) (.int .i64 0) (.slice none 0 0))
              refine hK.out _ _ ⟨HSS.out _ HE9.out, .inr trivial⟩ (fun hT => ?_)
              clear hK K
              (try simp only [Act.put, List.setIfInBounds_toArray, List.set_cons_zero, List.set_cons_succ])
              refine wpAnyG_done (by kernel_rfl) ?_ _
              clear z0 z1 z2 z3 z4 z5 z6 z7 z8 f0 f1 f2 f3 f4 f5 f6 f7 f8
              go_wp2_with fail
              go_meet
              exact ⟨a2.heap.size, x, rfl, HX.out, HT9, HE9⟩
          · go_simp
            refine gen_w ?_
            intro bx hwa
            have HSbx := Lib.hid (show Below wp.heap.size wp bx from by rw [hwa]; first | exact below_al wp _ | exact (below_al wp _).drew)
            have HZbx := Lib.hid (show Blk bx wp.heap.size 27 #[.int .i64 0, .string ⟨#[]⟩, .string ⟨#[]⟩, .string ⟨#[]⟩, .bool false, .int .i64 0, .int .i64 0, .int .i64 0, .slice none 0 0] from by rw [hwa]; exact Blk.new wp 27 #[.int .i64 0, .string ⟨#[]⟩, .string ⟨#[]⟩, .string ⟨#[]⟩, .bool false, .int .i64 0, .int .i64 0, .int .i64 0, .slice none 0 0])
            clear hwa
            refine hK.out _ _ ⟨HSS.out _ HSbx.out, .inr trivial⟩ (fun hT => ?_)
            clear hK K
            (try simp only [Act.put, List.setIfInBounds_toArray, List.set_cons_zero, List.set_cons_succ])
            refine wpAnyG_ready (rs := [2]) (by kernel_rfl) (by simp) ?_
            refine AllG.cons (i := 2) rfl (fun K hK => ?_) AllG.nil
            go_simp
            go_at_call 8
            (with_reducible refine (HW0.out _ HSbx.out).mono ?_)
            rintro e a2 ⟨rfl, hb⟩
            have HSa2 := Lib.hid (show Below bx.heap.size bx a2 from by first | exact hb | exact (Below.refl _ bx).drew.trans hb)
            clear hb
            refine hK.out _ _ ⟨HSS.out _ (below_tr HSbx.out HSa2.out), .inr trivial⟩ (fun hT => ?_)
            clear hK K
            (try simp only [Act.put, List.setIfInBounds_toArray, List.set_cons_zero, List.set_cons_succ])
            refine wpAnyG_ready (rs := [3]) (by kernel_rfl) (by simp) ?_
            refine AllG.cons (i := 3) rfl (fun K hK => ?_) AllG.nil
            go_simp
            refine gen_w ?_
            intro a3 hwa
            have HSa3 := Lib.hid (show Below a2.heap.size a2 a3 from by rw [hwa]; first | exact below_al a2 _ | exact (below_al a2 _).drew)
            have HBa3 := Lib.hid (show Reads 9 csV a3 (.slice (some ⟨a2.heap.size, 0, none⟩) 3 3) [(nV y), (arrU m 1 Au m cu), (nV 0)] from by rw [hwa]; exact reads_newN a2 _ [(nV y), (arrU m 1 Au m cu), (nV 0)] rfl)
            clear hwa
            refine hK.out _ _ ⟨HSS.out _ (below_tr (below_tr HSbx.out HSa2.out) HSa3.out), .inr trivial⟩ (fun hT => ?_)
            clear hK K
            (try simp only [Act.put, List.setIfInBounds_toArray, List.set_cons_zero, List.set_cons_succ])
            refine wpAnyG_ready (rs := [4]) (by kernel_rfl) (by simp) ?_
            refine AllG.cons (i := 4) rfl (fun K hK => ?_) AllG.nil
            go_simp
            go_at_call 7
            (with_reducible refine (lq_Ma a3 (arrU m 1 Au m cu) (some ⟨a2.heap.size, 0, none⟩) 3 m vz y hy1 HEX.out (HCT.out _ (below_tr (below_tr HSbx.out HSa2.out) HSa3.out)).ev (HBa3.out.below (Below.refl _ a3)) (HCT.out _ (below_tr (below_tr HSbx.out HSa2.out) HSa3.out)).au HVZ.out hm).mono ?_)
            rintro e a4 ⟨x, hx, rfl, hb⟩
            have HSa4 := Lib.hid (show Below a3.heap.size a3 a4 from by first | exact hb | exact (Below.refl _ a3).drew.trans hb)
            clear hb
            have HX := Lib.hid hx
            clear hx
            refine hK.out _ _ ⟨HSS.out _ (below_tr (below_tr (below_tr HSbx.out HSa2.out) HSa3.out) HSa4.out), .inr trivial⟩ (fun hT => ?_)
            clear hK K
            (try simp only [Act.put, List.setIfInBounds_toArray, List.set_cons_zero, List.set_cons_succ])
            refine wpAnyG_ready (rs := [6]) (by kernel_rfl) (by simp) ?_
            refine AllG.cons (i := 6) rfl (fun K hK => ?_) AllG.nil
            have HZ9 := Lib.hid (HZbx.out.later (below_tr (below_tr HSa2.out HSa3.out) HSa4.out))
            obtain ⟨z0, z1, z2, z3, z4, z5, z6, z7, z8⟩ := HZ9.out.nine
            obtain ⟨f0, f1, f2, f3, f4, f5, f6, f7, f8⟩ := HZ9.out.ninef
            go_simp
            have HT9 := Lib.hid (HZ9.out.nine_set (.int .i64 1) (.string (nt (x + 1))) (.string ⟨#[49]⟩) (.string ⟨#[]⟩) (.bool false) (.int .i64 0) (.int .i64 0) (.int .i64 0) (.slice none 0 0)).1
            have HE9 := Lib.hid (below_nine (below_tr (below_tr (below_tr HSbx.out HSa2.out) HSa3.out) HSa4.out) (show wp.heap.size ≤ wp.heap.size from Nat.le_refl _) (.int .i64 1) (.string (nt (x + 1))) (.string ⟨#[49]⟩) (.string ⟨#[]⟩) (.bool false) (.int .i64 0) (.int .i64 0) (.int .i64 0) (.slice none 0 0))
            refine hK.out _ _ ⟨HSS.out _ HE9.out, .inr trivial⟩ (fun hT => ?_)
            clear hK K
            (try simp only [Act.put, List.setIfInBounds_toArray, List.set_cons_zero, List.set_cons_succ])
            refine wpAnyG_done (by kernel_rfl) ?_ _
            clear z0 z1 z2 z3 z4 z5 z6 z7 z8 f0 f1 f2 f3 f4 f5 f6 f7 f8
            go_wp2_with fail
            go_meet
            exact ⟨wp.heap.size, x, rfl, HX.out, HT9, HE9⟩
        case rest =>
          obtain ⟨P, x, rfl, hx, HPP, HBP⟩ := hcut
          have HX := Lib.hid hx
          have HPYc := Lib.hid (HPY.out.later HBP.out)
          have HFc := Lib.hid (HFp.out.step HBP.out)
          clear hx HSS HCT HW0 HPY HFp HBP
          go_upto_region 9 with fail
          have HCT := Lib.hid fun w' (h : Below wc.heap.size wc w') => HFc.out.step h
          have HSS := Lib.hid (show ∀ w', Below wc.heap.size wc w' → w'.cell? ⟨Y, 0, none⟩ = some (.int .i64 1) ∧ w'.cell? ⟨Y, 1, none⟩ = some (.string (nt y)) ∧ w'.cell? ⟨Y, 2, none⟩ = some (.string ⟨#[49]⟩) ∧ w'.cell? ⟨Y, 3, none⟩ = some (.string ⟨#[]⟩) ∧ w'.cell? ⟨Y, 4, none⟩ = some (.bool false) ∧ w'.cell? ⟨Y, 5, none⟩ = some (.int .i64 0) ∧ w'.cell? ⟨Y, 6, none⟩ = some (.int .i64 0) ∧ w'.cell? ⟨Y, 7, none⟩ = some (.int .i64 0) ∧ w'.cell? ⟨Y, 8, none⟩ = some (.slice none 0 0) ∧ w'.cell? ⟨U, 0, none⟩ = some (.int .i64 5) ∧ w'.cell? ⟨U, 1, none⟩ = some (.string ⟨#[]⟩) ∧ w'.cell? ⟨U, 2, none⟩ = some (.string ⟨#[]⟩) ∧ w'.cell? ⟨U, 3, none⟩ = some (.string ⟨#[]⟩) ∧ w'.cell? ⟨U, 4, none⟩ = some (.bool false) ∧ w'.cell? ⟨U, 5, none⟩ = some (.int .i64 0) ∧ w'.cell? ⟨U, 6, none⟩ = some (.int .i64 (m : Int)) ∧ w'.cell? ⟨U, 7, none⟩ = some (.int .i64 1) ∧ w'.cell? ⟨U, 8, none⟩ = some (.slice Au m cu) ∧ w'.cell? ⟨P, 0, none⟩ = some (.int .i64 1) ∧ w'.cell? ⟨P, 1, none⟩ = some (.string (nt (x + 1))) ∧ w'.cell? ⟨P, 2, none⟩ = some (.string ⟨#[49]⟩) ∧ w'.cell? ⟨P, 3, none⟩ = some (.string ⟨#[]⟩) ∧ w'.cell? ⟨P, 4, none⟩ = some (.bool false) ∧ w'.cell? ⟨P, 5, none⟩ = some (.int .i64 0) ∧ w'.cell? ⟨P, 6, none⟩ = some (.int .i64 0) ∧ w'.cell? ⟨P, 7, none⟩ = some (.int .i64 0) ∧ w'.cell? ⟨P, 8, none⟩ = some (.slice none 0 0) from fun w' h => ⟨(HPYc.out.later h).cell 0, (HPYc.out.later h).cell 1, (HPYc.out.later h).cell 2, (HPYc.out.later h).cell 3, (HPYc.out.later h).cell 4, (HPYc.out.later h).cell 5, (HPYc.out.later h).cell 6, (HPYc.out.later h).cell 7, (HPYc.out.later h).cell 8, (HFc.out.pu.later h).cell 0, (HFc.out.pu.later h).cell 1, (HFc.out.pu.later h).cell 2, (HFc.out.pu.later h).cell 3, (HFc.out.pu.later h).cell 4, (HFc.out.pu.later h).cell 5, (HFc.out.pu.later h).cell 6, (HFc.out.pu.later h).cell 7, (HFc.out.pu.later h).cell 8, (HPP.out.later h).cell 0, (HPP.out.later h).cell 1, (HPP.out.later h).cell 2, (HPP.out.later h).cell 3, (HPP.out.later h).cell 4, (HPP.out.later h).cell 5, (HPP.out.later h).cell 6, (HPP.out.later h).cell 7, (HPP.out.later h).cell 8⟩)
          go_cut [48] (fun u48 wz => u48 = .bool false ∧ Hid (Below wc.heap.size wc wz))
          case first =>
            refine wp_region_G (S1 := fun w' => w'.cell? ⟨Y, 0, none⟩ = some (.int .i64 1) ∧ w'.cell? ⟨Y, 1, none⟩ = some (.string (nt y)) ∧ w'.cell? ⟨Y, 2, none⟩ = some (.string ⟨#[49]⟩) ∧ w'.cell? ⟨Y, 3, none⟩ = some (.string ⟨#[]⟩) ∧ w'.cell? ⟨Y, 4, none⟩ = some (.bool false) ∧ w'.cell? ⟨Y, 5, none⟩ = some (.int .i64 0) ∧ w'.cell? ⟨Y, 6, none⟩ = some (.int .i64 0) ∧ w'.cell? ⟨Y, 7, none⟩ = some (.int .i64 0) ∧ w'.cell? ⟨Y, 8, none⟩ = some (.slice none 0 0) ∧ w'.cell? ⟨U, 0, none⟩ = some (.int .i64 5) ∧ w'.cell? ⟨U, 1, none⟩ = some (.string ⟨#[]⟩) ∧ w'.cell? ⟨U, 2, none⟩ = some (.string ⟨#[]⟩) ∧ w'.cell? ⟨U, 3, none⟩ = some (.string ⟨#[]⟩) ∧ w'.cell? ⟨U, 4, none⟩ = some (.bool false) ∧ w'.cell? ⟨U, 5, none⟩ = some (.int .i64 0) ∧ w'.cell? ⟨U, 6, none⟩ = some (.int .i64 (m : Int)) ∧ w'.cell? ⟨U, 7, none⟩ = some (.int .i64 1) ∧ w'.cell? ⟨U, 8, none⟩ = some (.slice Au m cu) ∧ w'.cell? ⟨P, 0, none⟩ = some (.int .i64 1) ∧ w'.cell? ⟨P, 1, none⟩ = some (.string (nt (x + 1))) ∧ w'.cell? ⟨P, 2, none⟩ = some (.string ⟨#[49]⟩) ∧ w'.cell? ⟨P, 3, none⟩ = some (.string ⟨#[]⟩) ∧ w'.cell? ⟨P, 4, none⟩ = some (.bool false) ∧ w'.cell? ⟨P, 5, none⟩ = some (.int .i64 0) ∧ w'.cell? ⟨P, 6, none⟩ = some (.int .i64 0) ∧ w'.cell? ⟨P, 7, none⟩ = some (.int .i64 0) ∧ w'.cell? ⟨P, 8, none⟩ = some (.slice none 0 0)) (S2 := fun _ => True) (d := 99) (by kernel_rfl) (HSS.out _ (Below.refl _ wc).drew) trivial (fun hT => ?_)
            refine wpAnyG_take1d (i := 0) (v := ?_) rfl rfl (by kernel_rfl) (by kernel_rfl) (by kernel_rfl) (by kernel_rfl) (fun _ _ _ h => h) (Or.inl ⟨by rfl, ?_⟩) (by assumption) (fun hT => ?_)
            rotate_left
            · intro w hSw
              (try dsimp only at hSw)
              go_simp
              (try with_reducible rfl)
            (try simp only [Act.put, List.setIfInBounds_toArray, List.set_cons_zero, List.set_cons_succ])
            refine wpAnyG_take1d (i := 1) (v := ?_) rfl rfl (by kernel_rfl) (by kernel_rfl) (by kernel_rfl) (by kernel_rfl) (fun _ _ _ h => h) (Or.inl ⟨by rfl, ?_⟩) (by assumption) (fun hT => ?_)
            rotate_left
            · intro w hSw
              (try dsimp only at hSw)
              go_simp
              (try with_reducible rfl)
            (try simp only [Act.put, List.setIfInBounds_toArray, List.set_cons_zero, List.set_cons_succ])
            refine wpAnyG_take1d (i := 2) (v := ?_) rfl rfl (by kernel_rfl) (by kernel_rfl) (by kernel_rfl) (by kernel_rfl) (fun _ _ _ h => h) (Or.inl ⟨by rfl, ?_⟩) (by assumption) (fun hT => ?_)
            rotate_left
            · intro w hSw
              (try dsimp only at hSw)
              go_simp
              (try with_reducible rfl)
            (try simp only [Act.put, List.setIfInBounds_toArray, List.set_cons_zero, List.set_cons_succ])
            refine wpAnyG_take1d (i := 3) (v := ?_) rfl rfl (by kernel_rfl) (by kernel_rfl) (by kernel_rfl) (by kernel_rfl) (fun _ _ _ h => h) (Or.inl ⟨by rfl, ?_⟩) (by assumption) (fun hT => ?_)
            rotate_left
            · intro w hSw
              (try dsimp only at hSw)
              go_simp
              (try with_reducible rfl)
            (try simp only [Act.put, List.setIfInBounds_toArray, List.set_cons_zero, List.set_cons_succ])
            refine wpAnyG_take1d (i := 4) (v := ?_) rfl rfl (by kernel_rfl) (by kernel_rfl) (by kernel_rfl) (by kernel_rfl) (fun _ _ _ h => h) (Or.inl ⟨by rfl, ?_⟩) (by assumption) (fun hT => ?_)
            rotate_left
            · intro w hSw
              (try dsimp only at hSw)
              go_simp
              (try with_reducible rfl)
            (try simp only [Act.put, List.setIfInBounds_toArray, List.set_cons_zero, List.set_cons_succ])
            refine wpAnyG_take1d (i := 5) (v := ?_) rfl rfl (by kernel_rfl) (by kernel_rfl) (by kernel_rfl) (by kernel_rfl) (fun _ _ _ h => h) (Or.inl ⟨by rfl, ?_⟩) (by assumption) (fun hT => ?_)
            rotate_left
            · intro w hSw
              (try dsimp only at hSw)
              go_simp
              (try with_reducible rfl)
            (try simp only [Act.put, List.setIfInBounds_toArray, List.set_cons_zero, List.set_cons_succ])
            refine wpAnyG_take1d (i := 8) (v := ?_) rfl rfl (by kernel_rfl) (by kernel_rfl) (by kernel_rfl) (by kernel_rfl) (fun _ _ _ h => h) (Or.inl ⟨by rfl, ?_⟩) (by assumption) (fun hT => ?_)
            rotate_left
            · intro w hSw
              (try dsimp only at hSw)
              go_simp
              (try with_reducible rfl)
            (try simp only [Act.put, List.setIfInBounds_toArray, List.set_cons_zero, List.set_cons_succ])
            refine wpAnyG_ready (rs := [6]) (by kernel_rfl) (by simp) ?_
            refine AllG.cons (i := 6) rfl (fun K hK => ?_) AllG.nil
            go_simp
            refine gen_w ?_
            intro b6 hwa
            have HSb6 := Lib.hid (show Below wc.heap.size wc b6 from by rw [hwa]; first | exact below_al wc _ | exact (below_al wc _).drew)
            have HBb6 := Lib.hid (show Reads 9 csV b6 (.slice (some ⟨wc.heap.size, 0, none⟩) 2 2) [(arrU m 1 Au m cu), (nV (x + 1))] from by rw [hwa]; exact reads_newN wc _ [(arrU m 1 Au m cu), (nV (x + 1))] rfl)
            clear hwa
            refine hK.out _ _ ⟨HSS.out _ HSb6.out, .inr trivial⟩ (fun hT => ?_)
            clear hK K
            (try simp only [Act.put, List.setIfInBounds_toArray, List.set_cons_zero, List.set_cons_succ])
            refine wpAnyG_ready (rs := [7]) (by kernel_rfl) (by simp) ?_
            refine AllG.cons (i := 7) rfl (fun K hK => ?_) AllG.nil
            go_simp
            go_at_call 7
            (with_reducible refine (lq_In b6 (arrU m 1 Au m cu) (some ⟨wc.heap.size, 0, none⟩) 2 m vz x y HX.out.1 HX.out.2 (HCT.out _ HSb6.out).ev (HBb6.out.below (Below.refl _ b6)) (HCT.out _ HSb6.out).au HVZ.out hm).mono ?_)
            rintro e b7 ⟨rfl, hb⟩
            have HSb7 := Lib.hid (show Below b6.heap.size b6 b7 from by first | exact hb | exact (Below.refl _ b6).drew.trans hb)
            clear hb
            refine hK.out _ _ ⟨HSS.out _ (below_tr HSb6.out HSb7.out), .inr trivial⟩ (fun hT => ?_)
            clear hK K
            (try simp only [Act.put, List.setIfInBounds_toArray, List.set_cons_zero, List.set_cons_succ])
            refine wpAnyG_ready (rs := [9]) (by kernel_rfl) (by simp) ?_
            refine AllG.cons (i := 9) rfl (fun K hK => ?_) AllG.nil
            go_simp
            go_at_call 9
            (with_reducible refine (HSM.out b7).mono ?_)
            rintro e b9 ⟨rfl, hb⟩
            have HSb9 := Lib.hid (show Below b7.heap.size b7 b9 from by first | exact hb | exact (Below.refl _ b7).drew.trans hb)
            clear hb
            refine hK.out _ _ ⟨HSS.out _ (below_tr (below_tr HSb6.out HSb7.out) HSb9.out), .inr trivial⟩ (fun hT => ?_)
            clear hK K
            (try simp only [Act.put, List.setIfInBounds_toArray, List.set_cons_zero, List.set_cons_succ])
            refine wpAnyG_take1d (i := 10) (v := ?_) rfl rfl (by kernel_rfl) (by kernel_rfl) (by kernel_rfl) (by kernel_rfl) (fun _ _ _ h => h) (Or.inl ⟨by rfl, ?_⟩) (by assumption) (fun hT => ?_)
            rotate_left
            · intro w hSw
              (try dsimp only at hSw)
              go_simp
              (try with_reducible rfl)
            (try simp only [Act.put, List.setIfInBounds_toArray, List.set_cons_zero, List.set_cons_succ])
            refine wpAnyG_take1d (i := 11) (v := ?_) rfl rfl (by kernel_rfl) (by kernel_rfl) (by kernel_rfl) (by kernel_rfl) (fun _ _ _ h => h) (Or.inl ⟨by rfl, ?_⟩) (by assumption) (fun hT => ?_)
            rotate_left
            · intro w hSw
              (try dsimp only at hSw)
              go_simp
              (try with_reducible rfl)
            (try simp only [Act.put, List.setIfInBounds_toArray, List.set_cons_zero, List.set_cons_succ])
            refine wpAnyG_done (by kernel_rfl) ?_ _
            clear hT
            go_wp2_with fail
            go_meet
            exact ⟨rfl, Lib.hid (below_tr (below_tr HSb6.out HSb7.out) HSb9.out)⟩
          case rest =>
            obtain ⟨rfl, hc2⟩ := hcut
            have HPYd := Lib.hid (HPYc.out.later hc2.out)
            have HFd := Lib.hid (HFc.out.step hc2.out)
            clear HSS HCT HPYc HFc HPP HX hc2
            have HXM := Lib.hid (show Calls Tryz.prog 7 #[.string ⟨#[88, 77, 65, 84, 67, 72]⟩, .slice (some ⟨wc.heap.size, 0, none⟩) 2 2] (wc.alloc (.cells #[.int .i64 1, .string (nt y), .string ⟨#[49]⟩, .string ⟨#[]⟩, .bool false, .int .i64 0, .int .i64 0, .int .i64 0, .slice none 0 0, .int .i64 5, .string ⟨#[]⟩, .string ⟨#[]⟩, .string ⟨#[]⟩, .bool false, .int .i64 0, .int .i64 (R : Int), .int .i64 1, .slice (some ⟨b, oo, none⟩) R cc] 27)) fun e w' => ∃ x : Nat, (x < R ∧ v x = y) ∧ e = .returned (.agg #[.int .i64 1, .string (nt (x + 1)), .string ⟨#[49]⟩, .string ⟨#[]⟩, .bool false, .int .i64 0, .int .i64 0, .int .i64 0, .slice none 0 0]) ∧ Below (wc.alloc (.cells #[.int .i64 1, .string (nt y), .string ⟨#[49]⟩, .string ⟨#[]⟩, .bool false, .int .i64 0, .int .i64 0, .int .i64 0, .slice none 0 0, .int .i64 5, .string ⟨#[]⟩, .string ⟨#[]⟩, .string ⟨#[]⟩, .bool false, .int .i64 0, .int .i64 (R : Int), .int .i64 1, .slice (some ⟨b, oo, none⟩) R cc] 27)).heap.size (wc.alloc (.cells #[.int .i64 1, .string (nt y), .string ⟨#[49]⟩, .string ⟨#[]⟩, .bool false, .int .i64 0, .int .i64 0, .int .i64 0, .slice none 0 0, .int .i64 5, .string ⟨#[]⟩, .string ⟨#[]⟩, .string ⟨#[]⟩, .bool false, .int .i64 0, .int .i64 (R : Int), .int .i64 1, .slice (some ⟨b, oo, none⟩) R cc] 27)) w' from by
              have hf := HFd.out.step (below_al wc (.cells #[.int .i64 1, .string (nt y), .string ⟨#[49]⟩, .string ⟨#[]⟩, .bool false, .int .i64 0, .int .i64 0, .int .i64 0, .slice none 0 0, .int .i64 5, .string ⟨#[]⟩, .string ⟨#[]⟩, .string ⟨#[]⟩, .bool false, .int .i64 0, .int .i64 (R : Int), .int .i64 1, .slice (some ⟨b, oo, none⟩) R cc] 27))
              exact lq_Xm _ (arrU R 1 (some ⟨b, oo, none⟩) R cc) (some ⟨wc.heap.size, 0, none⟩) 2 R v y hy1 HEV.out hf.ev (reads_newN wc _ [nV y, (arrU R 1 (some ⟨b, oo, none⟩) R cc)] rfl) hf.av HVV.out hR)
            obtain ⟨e0, e1, e2, e3, e4, e5, e6, e7, e8⟩ := HPYd.out.nine
            obtain ⟨g0, g1, g2, g3, g4, g5, g6, g7, g8⟩ := HFd.out.pv.nine
            go_upto_region 12 with (go_at_call 7; (with_reducible refine HXM.out.mono ?_); rintro e w6 ⟨x, hx, rfl, hb⟩; have HX := Lib.hid hx; have hb6 := (below_al wc (.cells #[.int .i64 1, .string (nt y), .string ⟨#[49]⟩, .string ⟨#[]⟩, .bool false, .int .i64 0, .int .i64 0, .int .i64 0, .slice none 0 0, .int .i64 5, .string ⟨#[]⟩, .string ⟨#[]⟩, .string ⟨#[]⟩, .bool false, .int .i64 0, .int .i64 (R : Int), .int .i64 1, .slice (some ⟨b, oo, none⟩) R cc] 27)).trans (hb.mono (by simp)); have HPYe := Lib.hid (HPYd.out.later hb6); have HFe := Lib.hid (HFd.out.step hb6); clear hx hb hb6)
            clear e0 e1 e2 e3 e4 e5 e6 e7 e8 g0 g1 g2 g3 g4 g5 g6 g7 g8
            have hba := below_al w6 (.cells #[.int .i64 1, .string (nt (x + 1)), .string ⟨#[49]⟩, .string ⟨#[]⟩, .bool false, .int .i64 0, .int .i64 0, .int .i64 0, .slice none 0 0] 27)
            have HPY := Lib.hid (HPYe.out.later hba)
            have HFf := Lib.hid (HFe.out.step hba)
            have HPP := Lib.hid (Blk.new w6 27 #[.int .i64 1, .string (nt (x + 1)), .string ⟨#[49]⟩, .string ⟨#[]⟩, .bool false, .int .i64 0, .int .i64 0, .int .i64 0, .slice none 0 0])
            clear hba HPYe HFe HPYd HFd HXM
            revert HPY HFf HPP
            generalize w6.alloc (.cells #[.int .i64 1, .string (nt (x + 1)), .string ⟨#[49]⟩, .string ⟨#[]⟩, .bool false, .int .i64 0, .int .i64 0, .int .i64 0, .slice none 0 0] 27) = w7
            generalize w6.heap.size = P
            intro HPY HFf HPP
            have HCT := Lib.hid fun w' (h : Below w7.heap.size w7 w') => HFf.out.step h
            have HSS := Lib.hid (show ∀ w', Below w7.heap.size w7 w' → w'.cell? ⟨Y, 0, none⟩ = some (.int .i64 1) ∧ w'.cell? ⟨Y, 1, none⟩ = some (.string (nt y)) ∧ w'.cell? ⟨Y, 2, none⟩ = some (.string ⟨#[49]⟩) ∧ w'.cell? ⟨Y, 3, none⟩ = some (.string ⟨#[]⟩) ∧ w'.cell? ⟨Y, 4, none⟩ = some (.bool false) ∧ w'.cell? ⟨Y, 5, none⟩ = some (.int .i64 0) ∧ w'.cell? ⟨Y, 6, none⟩ = some (.int .i64 0) ∧ w'.cell? ⟨Y, 7, none⟩ = some (.int .i64 0) ∧ w'.cell? ⟨Y, 8, none⟩ = some (.slice none 0 0) ∧ w'.cell? ⟨V, 0, none⟩ = some (.int .i64 5) ∧ w'.cell? ⟨V, 1, none⟩ = some (.string ⟨#[]⟩) ∧ w'.cell? ⟨V, 2, none⟩ = some (.string ⟨#[]⟩) ∧ w'.cell? ⟨V, 3, none⟩ = some (.string ⟨#[]⟩) ∧ w'.cell? ⟨V, 4, none⟩ = some (.bool false) ∧ w'.cell? ⟨V, 5, none⟩ = some (.int .i64 0) ∧ w'.cell? ⟨V, 6, none⟩ = some (.int .i64 (R : Int)) ∧ w'.cell? ⟨V, 7, none⟩ = some (.int .i64 1) ∧ w'.cell? ⟨V, 8, none⟩ = some (.slice (some ⟨b, oo, none⟩) R cc) ∧ w'.cell? ⟨P, 0, none⟩ = some (.int .i64 1) ∧ w'.cell? ⟨P, 1, none⟩ = some (.string (nt (x + 1))) ∧ w'.cell? ⟨P, 2, none⟩ = some (.string ⟨#[49]⟩) ∧ w'.cell? ⟨P, 3, none⟩ = some (.string ⟨#[]⟩) ∧ w'.cell? ⟨P, 4, none⟩ = some (.bool false) ∧ w'.cell? ⟨P, 5, none⟩ = some (.int .i64 0) ∧ w'.cell? ⟨P, 6, none⟩ = some (.int .i64 0) ∧ w'.cell? ⟨P, 7, none⟩ = some (.int .i64 0) ∧ w'.cell? ⟨P, 8, none⟩ = some (.slice none 0 0) from fun w' h => ⟨(HPY.out.later h).cell 0, (HPY.out.later h).cell 1, (HPY.out.later h).cell 2, (HPY.out.later h).cell 3, (HPY.out.later h).cell 4, (HPY.out.later h).cell 5, (HPY.out.later h).cell 6, (HPY.out.later h).cell 7, (HPY.out.later h).cell 8, (HFf.out.pv.later h).cell 0, (HFf.out.pv.later h).cell 1, (HFf.out.pv.later h).cell 2, (HFf.out.pv.later h).cell 3, (HFf.out.pv.later h).cell 4, (HFf.out.pv.later h).cell 5, (HFf.out.pv.later h).cell 6, (HFf.out.pv.later h).cell 7, (HFf.out.pv.later h).cell 8, (HPP.out.later h).cell 0, (HPP.out.later h).cell 1, (HPP.out.later h).cell 2, (HPP.out.later h).cell 3, (HPP.out.later h).cell 4, (HPP.out.later h).cell 5, (HPP.out.later h).cell 6, (HPP.out.later h).cell 7, (HPP.out.later h).cell 8⟩)
            go_cut [74] (fun u74 wz => u74 = .bool false ∧ Hid (Below w7.heap.size w7 wz))
            case first =>
              refine wp_region_G (S1 := fun w' => w'.cell? ⟨Y, 0, none⟩ = some (.int .i64 1) ∧ w'.cell? ⟨Y, 1, none⟩ = some (.string (nt y)) ∧ w'.cell? ⟨Y, 2, none⟩ = some (.string ⟨#[49]⟩) ∧ w'.cell? ⟨Y, 3, none⟩ = some (.string ⟨#[]⟩) ∧ w'.cell? ⟨Y, 4, none⟩ = some (.bool false) ∧ w'.cell? ⟨Y, 5, none⟩ = some (.int .i64 0) ∧ w'.cell? ⟨Y, 6, none⟩ = some (.int .i64 0) ∧ w'.cell? ⟨Y, 7, none⟩ = some (.int .i64 0) ∧ w'.cell? ⟨Y, 8, none⟩ = some (.slice none 0 0) ∧ w'.cell? ⟨V, 0, none⟩ = some (.int .i64 5) ∧ w'.cell? ⟨V, 1, none⟩ = some (.string ⟨#[]⟩) ∧ w'.cell? ⟨V, 2, none⟩ = some (.string ⟨#[]⟩) ∧ w'.cell? ⟨V, 3, none⟩ = some (.string ⟨#[]⟩) ∧ w'.cell? ⟨V, 4, none⟩ = some (.bool false) ∧ w'.cell? ⟨V, 5, none⟩ = some (.int .i64 0) ∧ w'.cell? ⟨V, 6, none⟩ = some (.int .i64 (R : Int)) ∧ w'.cell? ⟨V, 7, none⟩ = some (.int .i64 1) ∧ w'.cell? ⟨V, 8, none⟩ = some (.slice (some ⟨b, oo, none⟩) R cc) ∧ w'.cell? ⟨P, 0, none⟩ = some (.int .i64 1) ∧ w'.cell? ⟨P, 1, none⟩ = some (.string (nt (x + 1))) ∧ w'.cell? ⟨P, 2, none⟩ = some (.string ⟨#[49]⟩) ∧ w'.cell? ⟨P, 3, none⟩ = some (.string ⟨#[]⟩) ∧ w'.cell? ⟨P, 4, none⟩ = some (.bool false) ∧ w'.cell? ⟨P, 5, none⟩ = some (.int .i64 0) ∧ w'.cell? ⟨P, 6, none⟩ = some (.int .i64 0) ∧ w'.cell? ⟨P, 7, none⟩ = some (.int .i64 0) ∧ w'.cell? ⟨P, 8, none⟩ = some (.slice none 0 0)) (S2 := fun _ => True) (d := 99) (by kernel_rfl) (HSS.out _ (Below.refl _ w7).drew) trivial (fun hT => ?_)
              refine wpAnyG_take1d (i := 0) (v := ?_) rfl rfl (by kernel_rfl) (by kernel_rfl) (by kernel_rfl) (by kernel_rfl) (fun _ _ _ h => h) (Or.inl ⟨by rfl, ?_⟩) (by assumption) (fun hT => ?_)
              rotate_left
              · intro w hSw
                (try dsimp only at hSw)
                go_simp
                (try with_reducible rfl)
              (try simp only [Act.put, List.setIfInBounds_toArray, List.set_cons_zero, List.set_cons_succ])
              refine wpAnyG_take1d (i := 1) (v := ?_) rfl rfl (by kernel_rfl) (by kernel_rfl) (by kernel_rfl) (by kernel_rfl) (fun _ _ _ h => h) (Or.inl ⟨by rfl, ?_⟩) (by assumption) (fun hT => ?_)
              rotate_left
              · intro w hSw
                (try dsimp only at hSw)
                go_simp
                (try with_reducible rfl)
              (try simp only [Act.put, List.setIfInBounds_toArray, List.set_cons_zero, List.set_cons_succ])
              refine wpAnyG_take1d (i := 2) (v := ?_) rfl rfl (by kernel_rfl) (by kernel_rfl) (by kernel_rfl) (by kernel_rfl) (fun _ _ _ h => h) (Or.inl ⟨by rfl, ?_⟩) (by assumption) (fun hT => ?_)
              rotate_left
              · intro w hSw
                (try dsimp only at hSw)
                go_simp
                (try with_reducible rfl)
              (try simp only [Act.put, List.setIfInBounds_toArray, List.set_cons_zero, List.set_cons_succ])
              refine wpAnyG_take1d (i := 3) (v := ?_) rfl rfl (by kernel_rfl) (by kernel_rfl) (by kernel_rfl) (by kernel_rfl) (fun _ _ _ h => h) (Or.inl ⟨by rfl, ?_⟩) (by assumption) (fun hT => ?_)
              rotate_left
              · intro w hSw
                (try dsimp only at hSw)
                go_simp
                (try with_reducible rfl)
              (try simp only [Act.put, List.setIfInBounds_toArray, List.set_cons_zero, List.set_cons_succ])
              refine wpAnyG_take1d (i := 4) (v := ?_) rfl rfl (by kernel_rfl) (by kernel_rfl) (by kernel_rfl) (by kernel_rfl) (fun _ _ _ h => h) (Or.inl ⟨by rfl, ?_⟩) (by assumption) (fun hT => ?_)
              rotate_left
              · intro w hSw
                (try dsimp only at hSw)
                go_simp
                (try with_reducible rfl)
              (try simp only [Act.put, List.setIfInBounds_toArray, List.set_cons_zero, List.set_cons_succ])
              refine wpAnyG_take1d (i := 5) (v := ?_) rfl rfl (by kernel_rfl) (by kernel_rfl) (by kernel_rfl) (by kernel_rfl) (fun _ _ _ h => h) (Or.inl ⟨by rfl, ?_⟩) (by assumption) (fun hT => ?_)
              rotate_left
              · intro w hSw
                (try dsimp only at hSw)
                go_simp
                (try with_reducible rfl)
              (try simp only [Act.put, List.setIfInBounds_toArray, List.set_cons_zero, List.set_cons_succ])
              refine wpAnyG_take1d (i := 8) (v := ?_) rfl rfl (by kernel_rfl) (by kernel_rfl) (by kernel_rfl) (by kernel_rfl) (fun _ _ _ h => h) (Or.inl ⟨by rfl, ?_⟩) (by assumption) (fun hT => ?_)
              rotate_left
              · intro w hSw
                (try dsimp only at hSw)
                go_simp
                (try with_reducible rfl)
              (try simp only [Act.put, List.setIfInBounds_toArray, List.set_cons_zero, List.set_cons_succ])
              refine wpAnyG_ready (rs := [6]) (by kernel_rfl) (by simp) ?_
              refine AllG.cons (i := 6) rfl (fun K hK => ?_) AllG.nil
              go_simp
              refine gen_w ?_
              intro b6 hwa
              have HSb6 := Lib.hid (show Below w7.heap.size w7 b6 from by rw [hwa]; first | exact below_al w7 _ | exact (below_al w7 _).drew)
              have HBb6 := Lib.hid (show Reads 9 csV b6 (.slice (some ⟨w7.heap.size, 0, none⟩) 2 2) [(arrU R 1 (some ⟨b, oo, none⟩) R cc), (nV (x + 1))] from by rw [hwa]; exact reads_newN w7 _ [(arrU R 1 (some ⟨b, oo, none⟩) R cc), (nV (x + 1))] rfl)
              clear hwa
              refine hK.out _ _ ⟨HSS.out _ HSb6.out, .inr trivial⟩ (fun hT => ?_)
              clear hK K
              (try simp only [Act.put, List.setIfInBounds_toArray, List.set_cons_zero, List.set_cons_succ])
              refine wpAnyG_ready (rs := [7]) (by kernel_rfl) (by simp) ?_
              refine AllG.cons (i := 7) rfl (fun K hK => ?_) AllG.nil
              go_simp
              go_at_call 7
              (with_reducible refine (lq_In b6 (arrU R 1 (some ⟨b, oo, none⟩) R cc) (some ⟨w7.heap.size, 0, none⟩) 2 R v x y HX.out.1 HX.out.2 (HCT.out _ HSb6.out).ev (HBb6.out.below (Below.refl _ b6)) (HCT.out _ HSb6.out).av HVV.out hR).mono ?_)
              rintro e b7 ⟨rfl, hb⟩
              have HSb7 := Lib.hid (show Below b6.heap.size b6 b7 from by first | exact hb | exact (Below.refl _ b6).drew.trans hb)
              clear hb
              refine hK.out _ _ ⟨HSS.out _ (below_tr HSb6.out HSb7.out), .inr trivial⟩ (fun hT => ?_)
              clear hK K
              (try simp only [Act.put, List.setIfInBounds_toArray, List.set_cons_zero, List.set_cons_succ])
              refine wpAnyG_ready (rs := [9]) (by kernel_rfl) (by simp) ?_
              refine AllG.cons (i := 9) rfl (fun K hK => ?_) AllG.nil
              go_simp
              go_at_call 9
              (with_reducible refine (HSM.out b7).mono ?_)
              rintro e b9 ⟨rfl, hb⟩
              have HSb9 := Lib.hid (show Below b7.heap.size b7 b9 from by first | exact hb | exact (Below.refl _ b7).drew.trans hb)
              clear hb
              refine hK.out _ _ ⟨HSS.out _ (below_tr (below_tr HSb6.out HSb7.out) HSb9.out), .inr trivial⟩ (fun hT => ?_)
              clear hK K
              (try simp only [Act.put, List.setIfInBounds_toArray, List.set_cons_zero, List.set_cons_succ])
              refine wpAnyG_take1d (i := 10) (v := ?_) rfl rfl (by kernel_rfl) (by kernel_rfl) (by kernel_rfl) (by kernel_rfl) (fun _ _ _ h => h) (Or.inl ⟨by rfl, ?_⟩) (by assumption) (fun hT => ?_)
              rotate_left
              · intro w hSw
                (try dsimp only at hSw)
                go_simp
                (try with_reducible rfl)
              (try simp only [Act.put, List.setIfInBounds_toArray, List.set_cons_zero, List.set_cons_succ])
              refine wpAnyG_take1d (i := 11) (v := ?_) rfl rfl (by kernel_rfl) (by kernel_rfl) (by kernel_rfl) (by kernel_rfl) (fun _ _ _ h => h) (Or.inl ⟨by rfl, ?_⟩) (by assumption) (fun hT => ?_)
              rotate_left
              · intro w hSw
                (try dsimp only at hSw)
                go_simp
                (try with_reducible rfl)
              (try simp only [Act.put, List.setIfInBounds_toArray, List.set_cons_zero, List.set_cons_succ])
              refine wpAnyG_take1d (i := 12) (v := ?_) rfl rfl (by kernel_rfl) (by kernel_rfl) (by kernel_rfl) (by kernel_rfl) (fun _ _ _ h => h) (Or.inl ⟨by rfl, ?_⟩) (by assumption) (fun hT => ?_)
              rotate_left
              · intro w hSw
                (try dsimp only at hSw)
                go_simp
                (try with_reducible rfl)
              (try simp only [Act.put, List.setIfInBounds_toArray, List.set_cons_zero, List.set_cons_succ])
              refine wpAnyG_take1d (i := 13) (v := ?_) rfl rfl (by kernel_rfl) (by kernel_rfl) (by kernel_rfl) (by kernel_rfl) (fun _ _ _ h => h) (Or.inl ⟨by rfl, ?_⟩) (by assumption) (fun hT => ?_)
              rotate_left
              · intro w hSw
                (try dsimp only at hSw)
                go_simp
                (try with_reducible rfl)
              (try simp only [Act.put, List.setIfInBounds_toArray, List.set_cons_zero, List.set_cons_succ])
              refine wpAnyG_take1d (i := 14) (v := ?_) rfl rfl (by kernel_rfl) (by kernel_rfl) (by kernel_rfl) (by kernel_rfl) (fun _ _ _ h => h) (Or.inl ⟨by rfl, ?_⟩) (by assumption) (fun hT => ?_)
              rotate_left
              · intro w hSw
                (try dsimp only at hSw)
                go_simp
                (try with_reducible rfl)
              (try simp only [Act.put, List.setIfInBounds_toArray, List.set_cons_zero, List.set_cons_succ])
              refine wpAnyG_take1d (i := 15) (v := ?_) rfl rfl (by kernel_rfl) (by kernel_rfl) (by kernel_rfl) (by kernel_rfl) (fun _ _ _ h => h) (Or.inl ⟨by rfl, ?_⟩) (by assumption) (fun hT => ?_)
              rotate_left
              · intro w hSw
                (try dsimp only at hSw)
                go_simp
                (try with_reducible rfl)
              (try simp only [Act.put, List.setIfInBounds_toArray, List.set_cons_zero, List.set_cons_succ])
              refine wpAnyG_take1d (i := 18) (v := ?_) rfl rfl (by kernel_rfl) (by kernel_rfl) (by kernel_rfl) (by kernel_rfl) (fun _ _ _ h => h) (Or.inl ⟨by rfl, ?_⟩) (by assumption) (fun hT => ?_)
              rotate_left
              · intro w hSw
                (try dsimp only at hSw)
                go_simp
                (try with_reducible rfl)
              (try simp only [Act.put, List.setIfInBounds_toArray, List.set_cons_zero, List.set_cons_succ])
              refine wpAnyG_ready (rs := [16]) (by kernel_rfl) (by simp) ?_
              refine AllG.cons (i := 16) rfl (fun K hK => ?_) AllG.nil
              go_simp
              refine gen_w ?_
              intro d6 hwa
              have HSd6 := Lib.hid (show Below b9.heap.size b9 d6 from by rw [hwa]; first | exact below_al b9 _ | exact (below_al b9 _).drew)
              have HBd6 := Lib.hid (show Reads 9 csV d6 (.slice (some ⟨b9.heap.size, 0, none⟩) 3 3) [(nV y), (arrU R 1 (some ⟨b, oo, none⟩) R cc), (arrU R 1 (some ⟨b, oo, none⟩) R cc)] from by rw [hwa]; exact reads_newN b9 _ [(nV y), (arrU R 1 (some ⟨b, oo, none⟩) R cc), (arrU R 1 (some ⟨b, oo, none⟩) R cc)] rfl)
              clear hwa
              refine hK.out _ _ ⟨HSS.out _ (below_tr (below_tr (below_tr HSb6.out HSb7.out) HSb9.out) HSd6.out), .inr trivial⟩ (fun hT => ?_)
              clear hK K
              (try simp only [Act.put, List.setIfInBounds_toArray, List.set_cons_zero, List.set_cons_succ])
              refine wpAnyG_ready (rs := [17]) (by kernel_rfl) (by simp) ?_
              refine AllG.cons (i := 17) rfl (fun K hK => ?_) AllG.nil
              go_simp
              go_at_call 7
              (with_reducible refine (lq_Xl d6 (arrU R 1 (some ⟨b, oo, none⟩) R cc) (some ⟨b9.heap.size, 0, none⟩) 3 R v y hy1 HEV.out (HCT.out _ (below_tr (below_tr (below_tr HSb6.out HSb7.out) HSb9.out) HSd6.out)).ev (HBd6.out.below (Below.refl _ d6)) (HCT.out _ (below_tr (below_tr (below_tr HSb6.out HSb7.out) HSb9.out) HSd6.out)).av HVV.out hR).mono ?_)
              rintro e d7 ⟨rfl, hb⟩
              have HSd7 := Lib.hid (show Below d6.heap.size d6 d7 from by first | exact hb | exact (Below.refl _ d6).drew.trans hb)
              clear hb
              refine hK.out _ _ ⟨HSS.out _ (below_tr (below_tr (below_tr (below_tr HSb6.out HSb7.out) HSb9.out) HSd6.out) HSd7.out), .inr trivial⟩ (fun hT => ?_)
              clear hK K
              (try simp only [Act.put, List.setIfInBounds_toArray, List.set_cons_zero, List.set_cons_succ])
              refine wpAnyG_ready (rs := [19]) (by kernel_rfl) (by simp) ?_
              refine AllG.cons (i := 19) rfl (fun K hK => ?_) AllG.nil
              go_simp
              go_at_call 9
              (with_reducible refine (HSM.out d7).mono ?_)
              rintro e d9 ⟨rfl, hb⟩
              have HSd9 := Lib.hid (show Below d7.heap.size d7 d9 from by first | exact hb | exact (Below.refl _ d7).drew.trans hb)
              clear hb
              refine hK.out _ _ ⟨HSS.out _ (below_tr (below_tr (below_tr (below_tr (below_tr HSb6.out HSb7.out) HSb9.out) HSd6.out) HSd7.out) HSd9.out), .inr trivial⟩ (fun hT => ?_)
              clear hK K
              (try simp only [Act.put, List.setIfInBounds_toArray, List.set_cons_zero, List.set_cons_succ])
              refine wpAnyG_take1d (i := 20) (v := ?_) rfl rfl (by kernel_rfl) (by kernel_rfl) (by kernel_rfl) (by kernel_rfl) (fun _ _ _ h => h) (Or.inl ⟨by rfl, ?_⟩) (by assumption) (fun hT => ?_)
              rotate_left
              · intro w hSw
                (try dsimp only at hSw)
                go_simp
                (try with_reducible rfl)
              (try simp only [Act.put, List.setIfInBounds_toArray, List.set_cons_zero, List.set_cons_succ])
              refine wpAnyG_take1d (i := 21) (v := ?_) rfl rfl (by kernel_rfl) (by kernel_rfl) (by kernel_rfl) (by kernel_rfl) (fun _ _ _ h => h) (Or.inl ⟨by rfl, ?_⟩) (by assumption) (fun hT => ?_)
              rotate_left
              · intro w hSw
                (try dsimp only at hSw)
                go_simp
                (try with_reducible rfl)
              (try simp only [Act.put, List.setIfInBounds_toArray, List.set_cons_zero, List.set_cons_succ])
              refine wpAnyG_done (by kernel_rfl) ?_ _
              clear hT
              go_wp2_with fail
              go_meet
              exact ⟨rfl, Lib.hid (below_tr (below_tr (below_tr (below_tr (below_tr HSb6.out HSb7.out) HSb9.out) HSd6.out) HSd7.out) HSd9.out)⟩
            case rest =>
              obtain ⟨rfl, hc3⟩ := hcut
              have HFg := Lib.hid (HFf.out.step hc3.out)
              clear HSS HCT HPY HFf HPP HX hc3
              go_wp2_with fail
              go_roundw
              case rel => exact ⟨i + 1, by omega, by go_num, HFg⟩
              case measure => simp [intOf]; omega
      · obtain rfl : i = R := by omega
        go_wp2_with fail
        go_meet
        exact HF
  case rest =>
    clear HF
    have HF := hcut
    have HCT := Lib.hid fun w' (h : Below wc.heap.size wc w') => HF.out.step h
    have HSS := Lib.hid (show ∀ w', Below wc.heap.size wc w' → w'.cell? ⟨V, 0, none⟩ = some (.int .i64 5) ∧ w'.cell? ⟨V, 1, none⟩ = some (.string ⟨#[]⟩) ∧ w'.cell? ⟨V, 2, none⟩ = some (.string ⟨#[]⟩) ∧ w'.cell? ⟨V, 3, none⟩ = some (.string ⟨#[]⟩) ∧ w'.cell? ⟨V, 4, none⟩ = some (.bool false) ∧ w'.cell? ⟨V, 5, none⟩ = some (.int .i64 0) ∧ w'.cell? ⟨V, 6, none⟩ = some (.int .i64 (R : Int)) ∧ w'.cell? ⟨V, 7, none⟩ = some (.int .i64 1) ∧ w'.cell? ⟨V, 8, none⟩ = some (.slice (some ⟨b, oo, none⟩) R cc) from fun w' h => ⟨(HF.out.pv.later h).cell 0, (HF.out.pv.later h).cell 1, (HF.out.pv.later h).cell 2, (HF.out.pv.later h).cell 3, (HF.out.pv.later h).cell 4, (HF.out.pv.later h).cell 5, (HF.out.pv.later h).cell 6, (HF.out.pv.later h).cell 7, (HF.out.pv.later h).cell 8⟩)
    go_upto_region 15 with fail
    go_cut [11] (fun u11 wz => ∃ (P : Nat) (kk : Int) (qn qd : ByteArray) (qc : Int), u11 = .pointer (some ⟨P, 0, none⟩) ∧ (kk = 1 ∨ (kk = 4 ∧ qc = 6)) ∧ Hid (Blk wz P 27 #[.int .i64 kk, .string qn, .string qd, .string ⟨#[]⟩, .bool false, .int .i64 qc, .int .i64 0, .int .i64 0, .slice none 0 0]) ∧ Hid (Below wc.heap.size wc wz))
    case first =>
      refine wp_region_G (S1 := fun w' => w'.cell? ⟨V, 0, none⟩ = some (.int .i64 5) ∧ w'.cell? ⟨V, 1, none⟩ = some (.string ⟨#[]⟩) ∧ w'.cell? ⟨V, 2, none⟩ = some (.string ⟨#[]⟩) ∧ w'.cell? ⟨V, 3, none⟩ = some (.string ⟨#[]⟩) ∧ w'.cell? ⟨V, 4, none⟩ = some (.bool false) ∧ w'.cell? ⟨V, 5, none⟩ = some (.int .i64 0) ∧ w'.cell? ⟨V, 6, none⟩ = some (.int .i64 (R : Int)) ∧ w'.cell? ⟨V, 7, none⟩ = some (.int .i64 1) ∧ w'.cell? ⟨V, 8, none⟩ = some (.slice (some ⟨b, oo, none⟩) R cc)) (S2 := fun _ => True) (d := 99) (by kernel_rfl) (HSS.out _ (Below.refl _ wc).drew) trivial (fun hT => ?_)
      refine wpAnyG_take1d (i := 0) (v := ?_) rfl rfl (by kernel_rfl) (by kernel_rfl) (by kernel_rfl) (by kernel_rfl) (fun _ _ _ h => h) (Or.inl ⟨by rfl, ?_⟩) (by assumption) (fun hT => ?_)
      rotate_left
      · intro w hSw
        (try dsimp only at hSw)
        go_simp
        (try with_reducible rfl)
      (try simp only [Act.put, List.setIfInBounds_toArray, List.set_cons_zero, List.set_cons_succ])
      refine wpAnyG_take1d (i := 2) (v := ?_) rfl rfl (by kernel_rfl) (by kernel_rfl) (by kernel_rfl) (by kernel_rfl) (fun _ _ _ h => h) (Or.inl ⟨by rfl, ?_⟩) (by assumption) (fun hT => ?_)
      rotate_left
      · intro w hSw
        (try dsimp only at hSw)
        go_simp
        (try with_reducible rfl)
      (try simp only [Act.put, List.setIfInBounds_toArray, List.set_cons_zero, List.set_cons_succ])
      refine wpAnyG_ready (rs := [1, 5]) (by kernel_rfl) (by simp) ?_
      refine AllG.cons (i := 1) rfl (fun K hK => ?_) (AllG.cons (i := 5) rfl (fun K hK => ?_) AllG.nil)
      · go_simp
        go_at_call 10
        (with_reducible refine (HNU.out _ (HCT.out _ (by first | exact Below.refl _ wc | exact (Below.refl _ wc).drew)).bel).mono ?_)
        rintro e a2 ⟨sn, sd, rfl, hg, hb⟩
        have HSa2 := Lib.hid (show Below wc.heap.size wc a2 from by first | exact hb | exact (Below.refl _ wc).drew.trans hb)
        clear hb
        have HGN := Lib.hid hg
        clear hg
        refine hK.out _ _ ⟨HSS.out _ HSa2.out, .inr trivial⟩ (fun hT => ?_)
        clear hK K
        (try simp only [Act.put, List.setIfInBounds_toArray, List.set_cons_zero, List.set_cons_succ])
        refine wpAnyG_ready (rs := [3, 5]) (by kernel_rfl) (by simp) ?_
        refine AllG.cons (i := 3) rfl (fun K hK => ?_) (AllG.cons (i := 5) rfl (fun K hK => ?_) AllG.nil)
        · go_simp
          refine gen_w ?_
          intro a3 hwa
          have HSa3 := Lib.hid (show Below a2.heap.size a2 a3 from by rw [hwa]; first | exact below_al a2 _ | exact (below_al a2 _).drew)
          have HBa3 := Lib.hid (show Reads 9 csV a3 (.slice (some ⟨a2.heap.size, 0, none⟩) 2 2) [(qV sn sd), (arrU R 1 (some ⟨b, oo, none⟩) R cc)] from by rw [hwa]; exact reads_newN a2 _ [(qV sn sd), (arrU R 1 (some ⟨b, oo, none⟩) R cc)] rfl)
          clear hwa
          refine hK.out _ _ ⟨HSS.out _ (below_tr HSa2.out HSa3.out), .inr trivial⟩ (fun hT => ?_)
          clear hK K
          (try simp only [Act.put, List.setIfInBounds_toArray, List.set_cons_zero, List.set_cons_succ])
          refine wpAnyG_ready (rs := [4, 5]) (by kernel_rfl) (by simp) ?_
          refine AllG.cons (i := 4) rfl (fun K hK => ?_) (AllG.cons (i := 5) rfl (fun K hK => ?_) AllG.nil)
          · go_simp
            go_at_call 7
            (with_reducible refine (lq_Xw a3 (arrU R 1 (some ⟨b, oo, none⟩) R cc) (some ⟨a2.heap.size, 0, none⟩) 2 R v sn sd HGN.out (HCT.out _ (below_tr HSa2.out HSa3.out)).ev (HBa3.out.below (Below.refl _ a3)) (HCT.out _ (below_tr HSa2.out HSa3.out)).av HVV.out hR).mono ?_)
            rintro e a4 ⟨kk, qn, qd, qc, hk, rfl, hb⟩
            have HSa4 := Lib.hid (show Below a3.heap.size a3 a4 from by first | exact hb | exact (Below.refl _ a3).drew.trans hb)
            clear hb
            have HK := Lib.hid hk
            clear hk
            refine hK.out _ _ ⟨HSS.out _ (below_tr (below_tr HSa2.out HSa3.out) HSa4.out), .inr trivial⟩ (fun hT => ?_)
            clear hK K
            (try simp only [Act.put, List.setIfInBounds_toArray, List.set_cons_zero, List.set_cons_succ])
            refine wpAnyG_ready (rs := [5]) (by kernel_rfl) (by simp) ?_
            refine AllG.cons (i := 5) rfl (fun K hK => ?_) AllG.nil
            go_simp
            refine gen_w ?_
            intro bx hwa
            have HSbx := Lib.hid (show Below a4.heap.size a4 bx from by rw [hwa]; first | exact below_al a4 _ | exact (below_al a4 _).drew)
            have HZbx := Lib.hid (show Blk bx a4.heap.size 27 #[.int .i64 0, .string ⟨#[]⟩, .string ⟨#[]⟩, .string ⟨#[]⟩, .bool false, .int .i64 0, .int .i64 0, .int .i64 0, .slice none 0 0] from by rw [hwa]; exact Blk.new a4 27 #[.int .i64 0, .string ⟨#[]⟩, .string ⟨#[]⟩, .string ⟨#[]⟩, .bool false, .int .i64 0, .int .i64 0, .int .i64 0, .slice none 0 0])
            clear hwa
            refine hK.out _ _ ⟨HSS.out _ (below_tr (below_tr (below_tr HSa2.out HSa3.out) HSa4.out) HSbx.out), .inr trivial⟩ (fun hT => ?_)
            clear hK K
            (try simp only [Act.put, List.setIfInBounds_toArray, List.set_cons_zero, List.set_cons_succ])
            refine wpAnyG_ready (rs := [6]) (by kernel_rfl) (by simp) ?_
            refine AllG.cons (i := 6) rfl (fun K hK => ?_) AllG.nil
            have HZ9 := Lib.hid (HZbx.out.later (Below.refl _ bx))
            obtain ⟨z0, z1, z2, z3, z4, z5, z6, z7, z8⟩ := HZ9.out.nine
            obtain ⟨f0, f1, f2, f3, f4, f5, f6, f7, f8⟩ := HZ9.out.ninef
            go_simp
            have HT9 := Lib.hid (HZ9.out.nine_set (.int .i64 kk) (.string qn) (.string qd) (.string ⟨#[]⟩) (.bool false) (.int .i64 qc) (.int .i64 0) (.int .i64 0) (.slice none 0 0)).1
            have HE9 := Lib.hid (below_nine (below_tr (below_tr (below_tr HSa2.out HSa3.out) HSa4.out) HSbx.out) (show wc.heap.size ≤ a4.heap.size from ((below_tr (below_tr HSa2.out HSa3.out) HSa4.out)).size) (.int .i64 kk) (.string qn) (.string qd) (.string ⟨#[]⟩) (.bool false) (.int .i64 qc) (.int .i64 0) (.int .i64 0) (.slice none 0 0))
            refine hK.out _ _ ⟨HSS.out _ HE9.out, .inr trivial⟩ (fun hT => ?_)
            clear hK K
            (try simp only [Act.put, List.setIfInBounds_toArray, List.set_cons_zero, List.set_cons_succ])
            refine wpAnyG_done (by kernel_rfl) ?_ _
            clear z0 z1 z2 z3 z4 z5 z6 z7 z8 f0 f1 f2 f3 f4 f5 f6 f7 f8
            go_wp2_with fail
            go_meet
            exact ⟨a4.heap.size, kk, qn, qd, qc, rfl, HK.out, HT9, HE9⟩
          · go_simp
            refine gen_w ?_
            intro bx hwa
            have HSbx := Lib.hid (show Below a3.heap.size a3 bx from by rw [hwa]; first | exact below_al a3 _ | exact (below_al a3 _).drew)
            have HZbx := Lib.hid (show Blk bx a3.heap.size 27 #[.int .i64 0, .string ⟨#[]⟩, .string ⟨#[]⟩, .string ⟨#[]⟩, .bool false, .int .i64 0, .int .i64 0, .int .i64 0, .slice none 0 0] from by rw [hwa]; exact Blk.new a3 27 #[.int .i64 0, .string ⟨#[]⟩, .string ⟨#[]⟩, .string ⟨#[]⟩, .bool false, .int .i64 0, .int .i64 0, .int .i64 0, .slice none 0 0])
            clear hwa
            refine hK.out _ _ ⟨HSS.out _ (below_tr (below_tr HSa2.out HSa3.out) HSbx.out), .inr trivial⟩ (fun hT => ?_)
            clear hK K
            (try simp only [Act.put, List.setIfInBounds_toArray, List.set_cons_zero, List.set_cons_succ])
            refine wpAnyG_ready (rs := [4]) (by kernel_rfl) (by simp) ?_
            refine AllG.cons (i := 4) rfl (fun K hK => ?_) AllG.nil
            go_simp
            go_at_call 7
            (with_reducible refine (lq_Xw bx (arrU R 1 (some ⟨b, oo, none⟩) R cc) (some ⟨a2.heap.size, 0, none⟩) 2 R v sn sd HGN.out (HCT.out _ (below_tr (below_tr HSa2.out HSa3.out) HSbx.out)).ev (HBa3.out.below HSbx.out) (HCT.out _ (below_tr (below_tr HSa2.out HSa3.out) HSbx.out)).av HVV.out hR).mono ?_)
            rintro e a4 ⟨kk, qn, qd, qc, hk, rfl, hb⟩
            have HSa4 := Lib.hid (show Below bx.heap.size bx a4 from by first | exact hb | exact (Below.refl _ bx).drew.trans hb)
            clear hb
            have HK := Lib.hid hk
            clear hk
            refine hK.out _ _ ⟨HSS.out _ (below_tr (below_tr (below_tr HSa2.out HSa3.out) HSbx.out) HSa4.out), .inr trivial⟩ (fun hT => ?_)
            clear hK K
            (try simp only [Act.put, List.setIfInBounds_toArray, List.set_cons_zero, List.set_cons_succ])
            refine wpAnyG_ready (rs := [6]) (by kernel_rfl) (by simp) ?_
            refine AllG.cons (i := 6) rfl (fun K hK => ?_) AllG.nil
            have HZ9 := Lib.hid (HZbx.out.later HSa4.out)
            obtain ⟨z0, z1, z2, z3, z4, z5, z6, z7, z8⟩ := HZ9.out.nine
            obtain ⟨f0, f1, f2, f3, f4, f5, f6, f7, f8⟩ := HZ9.out.ninef
            go_simp
            have HT9 := Lib.hid (HZ9.out.nine_set (.int .i64 kk) (.string qn) (.string qd) (.string ⟨#[]⟩) (.bool false) (.int .i64 qc) (.int .i64 0) (.int .i64 0) (.slice none 0 0)).1
            have HE9 := Lib.hid (below_nine (below_tr (below_tr (below_tr HSa2.out HSa3.out) HSbx.out) HSa4.out) (show wc.heap.size ≤ a3.heap.size from ((below_tr HSa2.out HSa3.out)).size) (.int .i64 kk) (.string qn) (.string qd) (.string ⟨#[]⟩) (.bool false) (.int .i64 qc) (.int .i64 0) (.int .i64 0) (.slice none 0 0))
            refine hK.out _ _ ⟨HSS.out _ HE9.out, .inr trivial⟩ (fun hT => ?_)
            clear hK K
            (try simp only [Act.put, List.setIfInBounds_toArray, List.set_cons_zero, List.set_cons_succ])
            refine wpAnyG_done (by kernel_rfl) ?_ _
            clear z0 z1 z2 z3 z4 z5 z6 z7 z8 f0 f1 f2 f3 f4 f5 f6 f7 f8
            go_wp2_with fail
            go_meet
            exact ⟨a3.heap.size, kk, qn, qd, qc, rfl, HK.out, HT9, HE9⟩
        · go_simp
          refine gen_w ?_
          intro bx hwa
          have HSbx := Lib.hid (show Below a2.heap.size a2 bx from by rw [hwa]; first | exact below_al a2 _ | exact (below_al a2 _).drew)
          have HZbx := Lib.hid (show Blk bx a2.heap.size 27 #[.int .i64 0, .string ⟨#[]⟩, .string ⟨#[]⟩, .string ⟨#[]⟩, .bool false, .int .i64 0, .int .i64 0, .int .i64 0, .slice none 0 0] from by rw [hwa]; exact Blk.new a2 27 #[.int .i64 0, .string ⟨#[]⟩, .string ⟨#[]⟩, .string ⟨#[]⟩, .bool false, .int .i64 0, .int .i64 0, .int .i64 0, .slice none 0 0])
          clear hwa
          refine hK.out _ _ ⟨HSS.out _ (below_tr HSa2.out HSbx.out), .inr trivial⟩ (fun hT => ?_)
          clear hK K
          (try simp only [Act.put, List.setIfInBounds_toArray, List.set_cons_zero, List.set_cons_succ])
          refine wpAnyG_ready (rs := [3]) (by kernel_rfl) (by simp) ?_
          refine AllG.cons (i := 3) rfl (fun K hK => ?_) AllG.nil
          go_simp
          refine gen_w ?_
          intro a3 hwa
          have HSa3 := Lib.hid (show Below bx.heap.size bx a3 from by rw [hwa]; first | exact below_al bx _ | exact (below_al bx _).drew)
          have HBa3 := Lib.hid (show Reads 9 csV a3 (.slice (some ⟨bx.heap.size, 0, none⟩) 2 2) [(qV sn sd), (arrU R 1 (some ⟨b, oo, none⟩) R cc)] from by rw [hwa]; exact reads_newN bx _ [(qV sn sd), (arrU R 1 (some ⟨b, oo, none⟩) R cc)] rfl)
          clear hwa
          refine hK.out _ _ ⟨HSS.out _ (below_tr (below_tr HSa2.out HSbx.out) HSa3.out), .inr trivial⟩ (fun hT => ?_)
          clear hK K
          (try simp only [Act.put, List.setIfInBounds_toArray, List.set_cons_zero, List.set_cons_succ])
          refine wpAnyG_ready (rs := [4]) (by kernel_rfl) (by simp) ?_
          refine AllG.cons (i := 4) rfl (fun K hK => ?_) AllG.nil
          go_simp
          go_at_call 7
          (with_reducible refine (lq_Xw a3 (arrU R 1 (some ⟨b, oo, none⟩) R cc) (some ⟨bx.heap.size, 0, none⟩) 2 R v sn sd HGN.out (HCT.out _ (below_tr (below_tr HSa2.out HSbx.out) HSa3.out)).ev (HBa3.out.below (Below.refl _ a3)) (HCT.out _ (below_tr (below_tr HSa2.out HSbx.out) HSa3.out)).av HVV.out hR).mono ?_)
          rintro e a4 ⟨kk, qn, qd, qc, hk, rfl, hb⟩
          have HSa4 := Lib.hid (show Below a3.heap.size a3 a4 from by first | exact hb | exact (Below.refl _ a3).drew.trans hb)
          clear hb
          have HK := Lib.hid hk
          clear hk
          refine hK.out _ _ ⟨HSS.out _ (below_tr (below_tr (below_tr HSa2.out HSbx.out) HSa3.out) HSa4.out), .inr trivial⟩ (fun hT => ?_)
          clear hK K
          (try simp only [Act.put, List.setIfInBounds_toArray, List.set_cons_zero, List.set_cons_succ])
          refine wpAnyG_ready (rs := [6]) (by kernel_rfl) (by simp) ?_
          refine AllG.cons (i := 6) rfl (fun K hK => ?_) AllG.nil
          have HZ9 := Lib.hid (HZbx.out.later (below_tr HSa3.out HSa4.out))
          obtain ⟨z0, z1, z2, z3, z4, z5, z6, z7, z8⟩ := HZ9.out.nine
          obtain ⟨f0, f1, f2, f3, f4, f5, f6, f7, f8⟩ := HZ9.out.ninef
          go_simp
          have HT9 := Lib.hid (HZ9.out.nine_set (.int .i64 kk) (.string qn) (.string qd) (.string ⟨#[]⟩) (.bool false) (.int .i64 qc) (.int .i64 0) (.int .i64 0) (.slice none 0 0)).1
          have HE9 := Lib.hid (below_nine (below_tr (below_tr (below_tr HSa2.out HSbx.out) HSa3.out) HSa4.out) (show wc.heap.size ≤ a2.heap.size from (HSa2.out).size) (.int .i64 kk) (.string qn) (.string qd) (.string ⟨#[]⟩) (.bool false) (.int .i64 qc) (.int .i64 0) (.int .i64 0) (.slice none 0 0))
          refine hK.out _ _ ⟨HSS.out _ HE9.out, .inr trivial⟩ (fun hT => ?_)
          clear hK K
          (try simp only [Act.put, List.setIfInBounds_toArray, List.set_cons_zero, List.set_cons_succ])
          refine wpAnyG_done (by kernel_rfl) ?_ _
          clear z0 z1 z2 z3 z4 z5 z6 z7 z8 f0 f1 f2 f3 f4 f5 f6 f7 f8
          go_wp2_with fail
          go_meet
          exact ⟨a2.heap.size, kk, qn, qd, qc, rfl, HK.out, HT9, HE9⟩
      · go_simp
        refine gen_w ?_
        intro bx hwa
        have HSbx := Lib.hid (show Below wc.heap.size wc bx from by rw [hwa]; first | exact below_al wc _ | exact (below_al wc _).drew)
        have HZbx := Lib.hid (show Blk bx wc.heap.size 27 #[.int .i64 0, .string ⟨#[]⟩, .string ⟨#[]⟩, .string ⟨#[]⟩, .bool false, .int .i64 0, .int .i64 0, .int .i64 0, .slice none 0 0] from by rw [hwa]; exact Blk.new wc 27 #[.int .i64 0, .string ⟨#[]⟩, .string ⟨#[]⟩, .string ⟨#[]⟩, .bool false, .int .i64 0, .int .i64 0, .int .i64 0, .slice none 0 0])
        clear hwa
        refine hK.out _ _ ⟨HSS.out _ HSbx.out, .inr trivial⟩ (fun hT => ?_)
        clear hK K
        (try simp only [Act.put, List.setIfInBounds_toArray, List.set_cons_zero, List.set_cons_succ])
        refine wpAnyG_ready (rs := [1]) (by kernel_rfl) (by simp) ?_
        refine AllG.cons (i := 1) rfl (fun K hK => ?_) AllG.nil
        go_simp
        go_at_call 10
        (with_reducible refine (HNU.out _ (HCT.out _ HSbx.out).bel).mono ?_)
        rintro e a2 ⟨sn, sd, rfl, hg, hb⟩
        have HSa2 := Lib.hid (show Below bx.heap.size bx a2 from by first | exact hb | exact (Below.refl _ bx).drew.trans hb)
        clear hb
        have HGN := Lib.hid hg
        clear hg
        refine hK.out _ _ ⟨HSS.out _ (below_tr HSbx.out HSa2.out), .inr trivial⟩ (fun hT => ?_)
        clear hK K
        (try simp only [Act.put, List.setIfInBounds_toArray, List.set_cons_zero, List.set_cons_succ])
        refine wpAnyG_ready (rs := [3]) (by kernel_rfl) (by simp) ?_
        refine AllG.cons (i := 3) rfl (fun K hK => ?_) AllG.nil
        go_simp
        refine gen_w ?_
        intro a3 hwa
        have HSa3 := Lib.hid (show Below a2.heap.size a2 a3 from by rw [hwa]; first | exact below_al a2 _ | exact (below_al a2 _).drew)
        have HBa3 := Lib.hid (show Reads 9 csV a3 (.slice (some ⟨a2.heap.size, 0, none⟩) 2 2) [(qV sn sd), (arrU R 1 (some ⟨b, oo, none⟩) R cc)] from by rw [hwa]; exact reads_newN a2 _ [(qV sn sd), (arrU R 1 (some ⟨b, oo, none⟩) R cc)] rfl)
        clear hwa
        refine hK.out _ _ ⟨HSS.out _ (below_tr (below_tr HSbx.out HSa2.out) HSa3.out), .inr trivial⟩ (fun hT => ?_)
        clear hK K
        (try simp only [Act.put, List.setIfInBounds_toArray, List.set_cons_zero, List.set_cons_succ])
        refine wpAnyG_ready (rs := [4]) (by kernel_rfl) (by simp) ?_
        refine AllG.cons (i := 4) rfl (fun K hK => ?_) AllG.nil
        go_simp
        go_at_call 7
        (with_reducible refine (lq_Xw a3 (arrU R 1 (some ⟨b, oo, none⟩) R cc) (some ⟨a2.heap.size, 0, none⟩) 2 R v sn sd HGN.out (HCT.out _ (below_tr (below_tr HSbx.out HSa2.out) HSa3.out)).ev (HBa3.out.below (Below.refl _ a3)) (HCT.out _ (below_tr (below_tr HSbx.out HSa2.out) HSa3.out)).av HVV.out hR).mono ?_)
        rintro e a4 ⟨kk, qn, qd, qc, hk, rfl, hb⟩
        have HSa4 := Lib.hid (show Below a3.heap.size a3 a4 from by first | exact hb | exact (Below.refl _ a3).drew.trans hb)
        clear hb
        have HK := Lib.hid hk
        clear hk
        refine hK.out _ _ ⟨HSS.out _ (below_tr (below_tr (below_tr HSbx.out HSa2.out) HSa3.out) HSa4.out), .inr trivial⟩ (fun hT => ?_)
        clear hK K
        (try simp only [Act.put, List.setIfInBounds_toArray, List.set_cons_zero, List.set_cons_succ])
        refine wpAnyG_ready (rs := [6]) (by kernel_rfl) (by simp) ?_
        refine AllG.cons (i := 6) rfl (fun K hK => ?_) AllG.nil
        have HZ9 := Lib.hid (HZbx.out.later (below_tr (below_tr HSa2.out HSa3.out) HSa4.out))
        obtain ⟨z0, z1, z2, z3, z4, z5, z6, z7, z8⟩ := HZ9.out.nine
        obtain ⟨f0, f1, f2, f3, f4, f5, f6, f7, f8⟩ := HZ9.out.ninef
        go_simp
        have HT9 := Lib.hid (HZ9.out.nine_set (.int .i64 kk) (.string qn) (.string qd) (.string ⟨#[]⟩) (.bool false) (.int .i64 qc) (.int .i64 0) (.int .i64 0) (.slice none 0 0)).1
        have HE9 := Lib.hid (below_nine (below_tr (below_tr (below_tr HSbx.out HSa2.out) HSa3.out) HSa4.out) (show wc.heap.size ≤ wc.heap.size from Nat.le_refl _) (.int .i64 kk) (.string qn) (.string qd) (.string ⟨#[]⟩) (.bool false) (.int .i64 qc) (.int .i64 0) (.int .i64 0) (.slice none 0 0))
        refine hK.out _ _ ⟨HSS.out _ HE9.out, .inr trivial⟩ (fun hT => ?_)
        clear hK K
        (try simp only [Act.put, List.setIfInBounds_toArray, List.set_cons_zero, List.set_cons_succ])
        refine wpAnyG_done (by kernel_rfl) ?_ _
        clear z0 z1 z2 z3 z4 z5 z6 z7 z8 f0 f1 f2 f3 f4 f5 f6 f7 f8
        go_wp2_with fail
        go_meet
        exact ⟨wc.heap.size, kk, qn, qd, qc, rfl, HK.out, HT9, HE9⟩
    case rest =>
      obtain ⟨P, kk, qn, qd, qc, rfl, hk, HPP, HBB⟩ := hcut
      have HFz := Lib.hid (HF.out.step HBB.out).bel
      clear HF HCT HSS HBB
      obtain ⟨e0, e1, e2, e3, e4, e5, e6, e7, e8⟩ := HPP.out.nine
      rcases hk with rfl | ⟨rfl, rfl⟩
      all_goals
        go_wp2_with fail
        go_ret
        exact ⟨rfl, HFz.out⟩
end Go.Proofs.YtllhefjblipddaaGreatDoor

