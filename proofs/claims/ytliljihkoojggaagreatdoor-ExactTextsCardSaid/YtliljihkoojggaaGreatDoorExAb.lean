/- ExactTexts's walk. -/
import Derived.Test.YtliljihkoojggaaGreatDoorExF
import Derived.Test.YtliljihkoojggaaGreatDoorExAa
import Derived.Test.YtliljihkoojggaaGreatDoorMod
namespace Go.Proofs.YtliljihkoojggaaGreatDoor
open Go.RowKit

theorem Nt.rnd_exact {c d : Nat} (hd : d ≠ 0) : Nt.rnd (c * d) d = c := by
  unfold Nt.rnd
  have e : c * d + c * d + d = d + c * (d + d) := by rw [Nat.mul_add]; omega
  rw [e, Nat.add_mul_div_right _ _ (by omega), Nat.div_eq_of_lt (by omega)]
  omega
theorem fixed_any (a1 a2 : ByteArray) (m : Bool) (n d k P E : Nat) (w : World) (h1 : a1.size ≤ 9223372036854775807) (h2 : a2.size ≤ 9223372036854775807) (hr : Nt.Rd a1.data.toList a2.data.toList m n d) (hP : P ≤ 100) (hdk : d ∣ 10 ^ k) (hE : E ≤ 90) (hn : n < 10 ^ E) (hd : d < 10 ^ E) (htab : Lib.TabIs Tryz.prog w "internal/strconv.uint64pow10" .u64 Lib.pow10Tab) :
    Calls Tryz.prog 23 #[.agg #[.string a1, .string a2], .int .i64 (P : Int)] w fun e w' => ∃ (t : ByteArray) (Q : Nat), e = .returned (.tuple #[.string t, .int .i64 0]) ∧ t.data.toList = Nt.decT m Q P ∧ (k ≤ P → Q * d = n * 10 ^ P) ∧ Below w.heap.size w w' := by
  have hp0 : 10 ^ P ≠ 0 := Nat.ne_of_gt (Nat.pow_pos (by decide))
  have hN : n * 10 ^ P ≤ 10 ^ (E + P) := by rw [Nat.pow_add]; exact Nat.mul_le_mul_right _ (Nat.le_of_lt hn)
  have hq : Nt.rnd (n * 10 ^ P) d ≤ 10 ^ (E + P + 1) := by
    refine Nat.le_trans (Nat.div_le_self _ _) ?_
    have h3 := ten_le (p := E) (k := E + P) (by omega)
    rw [Nat.pow_succ]
    omega
  have hD : 10 ^ P ≤ 10 ^ (E + P + 1) := ten_le (by omega)
  have hfit : Fits (Nt.rnd (n * 10 ^ P) d) (10 ^ P) := fits_of (m := false) (d := 10 ^ P) (z := (Nt.rnd (n * 10 ^ P) d : Int)) hp0 hp0 rfl (by rw [nat_abs]; exact hq) hD (by omega) (i := 34) (by omega) (lt_B hq (by omega)) (lt_B hD (by omega))
  have hql : (Lib.decDigits (Nt.rnd (n * 10 ^ P) d)).length ≤ 3000 := by
    have h3 : Nt.rnd (n * 10 ^ P) d < 10 ^ (E + P + 1 + 1) := Nat.lt_of_le_of_lt hq (Nat.pow_lt_pow_right (by decide) (by omega))
    exact Nat.le_trans (Nt.dd_le h3) (by omega)
  refine (fixed_w a1 a2 m n d P w h1 h2 hr hP (Nat.le_trans (digs_pow (lt_B (Nat.le_of_lt hn) (i := 34) (by omega))) (by omega)) (Nat.le_trans (digs_pow (lt_B (Nat.le_of_lt hd) (i := 34) (by omega))) (by omega)) hfit hql htab).mono ?_
  rintro e w' ⟨t, rfl, ht, hb⟩
  refine ⟨t, _, rfl, ht, fun hk => ?_, hb⟩
  obtain ⟨c, hc⟩ := Nat.dvd_trans hdk (Nat.pow_dvd_pow 10 hk)
  have e1 : n * 10 ^ P = n * c * d := by rw [hc]; grind
  rw [e1, Nt.rnd_exact hr.d0]

set_option maxRecDepth 100000 in
set_option maxHeartbeats 8000000 in
theorem texts_any (a1 a2 : ByteArray) (n0 : Int) (w : World) (ha1 : a1.size ≤ 9223372036854775807) (ha2 : a2.size ≤ 9223372036854775807) (hn : -9223372036854775808 ≤ n0 ∧ n0 ≤ 9223372036854775807)
    (htab : Lib.TabIs Tryz.prog w "internal/strconv.uint64pow10" .u64 Lib.pow10Tab) (hmx : ∃ mx, w.cell? ⟨0, 0, none⟩ = some (.int .i64 mx)) :
    Calls Tryz.prog 6 #[.agg #[.string a1, .string a2], .int .i64 n0] w fun e w' => e = .returned (.bool true) ∧ Below w.heap.size w w' := by
  have hT := (show ∀ W, Below w.heap.size w W → Lib.TabIs Tryz.prog W "internal/strconv.uint64pow10" .u64 Lib.pow10Tab from Lib.tabBelow_of_tabIs htab)
  obtain ⟨mx, hmx⟩ := hmx
  have HMX := Lib.hid (show ∀ W, Below w.heap.size w W → W.cell? ⟨0, 0, none⟩ = some (.int .i64 mx) from fun W hW => (hW.cell (World.block_lt_of_cell? _ _ hmx)).trans hmx)
  have HFR := Lib.hid fun W hW => fractions_any W (hT W hW)
  have HTT := Lib.hid hT
  have m0 : 0 ≤ n0 % 5 := Int.emod_nonneg _ (by decide)
  have m1 : n0 % 5 < 5 := Int.emod_lt_of_pos _ (by decide)
  have hmd := fun W => mod_any n0 5 W (by decide) (by decide) hn
  generalize n0 % 5 = nn at *
  obtain ⟨j, rfl⟩ : ∃ j : Nat, nn = j := ⟨nn.toNat, by omega⟩
  have HMD := Lib.hid hmd
  have hj4 : j ≤ 4 := by omega
  have hj4i : (j : Int) ≤ 4 := by omega
  have hj0i : (0 : Int) ≤ j := by omega
  have HS := Lib.hid (show ∀ p ∈ [(a1, a2)], p.1.size ≤ 9223372036854775807 ∧ p.2.size ≤ 9223372036854775807 from fun p hp => by
    simp only [List.mem_cons, List.not_mem_nil, or_false] at hp
    subst hp
    exact ⟨ha1, ha2⟩)
  have HL0 := Lib.hid ((Loc.start w).alloc' rfl 23 #[.string a1, .string a2])
  have HA := Lib.hid (And.intro ha1 ha2)
  clear hT htab ha1 ha2 hmd m0 m1 hn hmx
  by_cases hfew : ∀ p ∈ [(a1, a2)], Few p
  case neg =>
    have HFW := Lib.hid (show ∀ W : World, Calls Tryz.prog 8 #[.slice (some ⟨W.heap.size, 0, none⟩) 1 1] (W.alloc (.cells #[.string a1, .string a2] 23)) fun e w' => e = .returned (.bool false) ∧ Below (W.alloc (.cells #[.string a1, .string a2] 23)).heap.size (W.alloc (.cells #[.string a1, .string a2] 23)) w' from fun W => few_f W.heap.size [(a1, a2)] _ (frcells1 W a1 a2) (by simp) HS.out hfew)
    clear hfew
    go_enter Tryz.func6, Tryz.ntmps6
    go_upto_region 3 with (go_at_call 7; (with_reducible refine (HFR.out _ HL0.out.bel).mono ?_); rintro e w1 ⟨rfl, hb⟩; have HL1 := Lib.hid (HL0.out.step hb); clear hb)
    obtain ⟨x0, x1⟩ := HL1.out.s2 (g := w.heap.size) (t := 23) (a := .string a1) (b := .string a2) (by simp)
    go_wp2_with (go_at_call 8; (with_reducible refine (HFW.out _).mono ?_); rintro e w2 ⟨rfl, hb⟩; have HL2 := Lib.hid ((HL1.out.alloc 23 #[.string a1, .string a2]).step hb); clear hb)
    go_ret
    exact ⟨rfl, HL2.out.bel⟩
  case pos =>
    have HFW := Lib.hid (show ∀ W : World, Calls Tryz.prog 8 #[.slice (some ⟨W.heap.size, 0, none⟩) 1 1] (W.alloc (.cells #[.string a1, .string a2] 23)) fun e w' => e = .returned (.bool true) ∧ Below (W.alloc (.cells #[.string a1, .string a2] 23)).heap.size (W.alloc (.cells #[.string a1, .string a2] 23)) w' from fun W => few_t W.heap.size [(a1, a2)] _ (frcells1 W a1 a2) (by simp) HS.out hfew)
    have hf := hfew (a1, a2) (by simp)
    obtain ⟨m, n, d, hr⟩ := hf.rd
    have hl1 := hf.l1
    have hl2 := hf.l2
    dsimp only at hr hl1 hl2
    have hn40 : n < 10 ^ 40 := by
      have h1 := congrArg List.length hr.num
      rw [List.length_append, ba_len] at h1
      exact Nat.lt_of_lt_of_le (Nt.dd_lt n) (Nat.pow_le_pow_right (by decide) (by omega))
    have hd40 : d < 10 ^ 40 := by
      have h1 := congrArg List.length hr.den
      rw [ba_len] at h1
      exact Nat.lt_of_lt_of_le (Nt.dd_lt d) (Nat.pow_le_pow_right (by decide) (by omega))
    have HSH := Lib.hid fun W (hW : Below w.heap.size w W) => shortest_w a1 a2 m n d W HA.out.1 HA.out.2 hr 40 (by decide) hn40 hd40 (HTT.out W hW)
    have HPB := Lib.hid fun (t : ByteArray) q p W (hW : Below w.heap.size w W) ht h hp => parse_back t a1 a2 m n d q p 40 W ht hr h hp (by decide) hn40 hd40 (HTT.out W hW)
    have HFX := Lib.hid fun k P (z : Int) W (hW : Below w.heap.size w W) (hz : z = (P : Nat)) hP hdk => hz ▸ fixed_any a1 a2 m n d k P 40 W HA.out.1 HA.out.2 hr hP hdk (by decide) hn40 hd40 (HTT.out W hW)
    have HN40 := Lib.hid hn40
    have HK := Lib.hid (show ∀ k, 2 ^ k ≤ d → k ≤ 160 from fun k hk => by
      have h5 : (10 : Nat) ^ 40 ≤ 16 ^ 40 := Nat.pow_le_pow_left (by decide) _
      have h6 : (16 : Nat) ^ 40 = 2 ^ (4 * 40) := by rw [Nat.pow_mul]
      have h7 : 2 ^ k < 2 ^ (4 * 40) := by
        rw [← h6]
        exact Nat.lt_of_le_of_lt hk (Nat.lt_of_lt_of_le hd40 h5)
      have := (Nat.pow_lt_pow_iff_right (by decide)).1 h7
      omega)
    clear hfew hf HS HTT HA hl1 hl2 hn40 hd40 hr
    go_enter Tryz.func6, Tryz.ntmps6
    go_upto_region 3 with (go_at_call 7; (with_reducible refine (HFR.out _ HL0.out.bel).mono ?_); rintro e w1 ⟨rfl, hb⟩; have HL1 := Lib.hid (HL0.out.step hb); clear hb)
    obtain ⟨x0, x1⟩ := HL1.out.s2 (g := w.heap.size) (t := 23) (a := .string a1) (b := .string a2) (by simp)
    go_upto_region 5 with (go_at_call 8; (with_reducible refine (HFW.out _).mono ?_); rintro e w2 ⟨rfl, hb⟩; have HL2 := Lib.hid (((HL1.out.alloc 23 #[.string a1, .string a2]).step hb).perm (L' := [(w.heap.size, 23, #[.string a1, .string a2])]) (fun x hx => List.mem_cons_of_mem _ hx)); clear hb)
    clear x0 x1
    obtain ⟨x0, x1⟩ := HL2.out.s2 (g := w.heap.size) (t := 23) (a := .string a1) (b := .string a2) (by simp)
    go_wp2_with fail
    refine (HSH.out _ HL2.out.bel).mono ?_
    rintro e w3 ⟨hsh, hb⟩
    have HL3 := Lib.hid (HL2.out.step hb)
    clear hb HL2 HL1 HL0 HFW HFR HSH
    rcases hsh with rfl | ⟨t, q, k, rfl, ht, hqd, h2k, hdk⟩
    · go_wp2_with fail
      go_ret
      exact ⟨rfl, HL3.out.bel⟩
    have hk := HK.out k h2k
    have HTX := Lib.hid ht
    have HPA := Lib.hid fun W hW => HPB.out t q k W hW ht hqd (by omega)
    have hts : t.size < 4294967281 := by
      have hqle : q ≤ n * 10 ^ k := by
        rw [← hqd]
        rcases Nat.eq_zero_or_pos d with h0 | h0
        · rw [h0] at h2k; exact absurd h2k (by have := Nat.pow_pos (n := k) (show 0 < 2 by decide); omega)
        · exact Nat.le_mul_of_pos_right _ h0
      have hq2 : q < 10 ^ (40 + k + 1) := by
        refine Nat.lt_of_le_of_lt hqle (Nat.lt_of_le_of_lt (Nat.mul_le_mul_right _ (Nat.le_of_lt HN40.out)) ?_)
        rw [← Nat.pow_add]
        exact Nat.pow_lt_pow_right (by decide) (by omega)
      have h1 := Nt.dd_le hq2
      have h2 := Nt.decT_len m q k
      rw [← ht, ba_len] at h2
      omega
    have HCU := Lib.hid (show ∀ W, Below w.heap.size w W → Calls Tryz.prog 22 #[.string t, .string ⟨#[46]⟩] W fun e w' => ∃ (b pt : ByteArray) (f : Bool), e = .returned (.tuple #[.string b, .string pt, .bool f]) ∧ pt.size = k ∧ Below W.heap.size W w' from fun W hW => by
      refine (Tryz.strings_Cut t ⟨#[46]⟩ mx W hts (HMX.out W hW)).mono ?_
      rintro e w' ⟨rfl, nd, rfl⟩
      refine ⟨_, _, _, rfl, ?_, below_drewN (Below.refl _ _) _⟩
      rw [← ba_len, show (⟨#[46]⟩ : ByteArray).data.toList = [46] from rfl, ht]
      exact cut_dot m q k)
    have HFX2 := Lib.hid fun (z : Int) W hW hz => HFX.out k (min 100 (k + j)) z W hW hz (by omega) hdk
    clear ht hqd h2k hdk hts HFX HK HMX x0 x1
    obtain ⟨x0, x1⟩ := HL3.out.s2 (g := w.heap.size) (t := 23) (a := .string a1) (b := .string a2) (by simp)
    go_upto_region 12 with (first
      | (go_at_call 21; (with_reducible refine (HPA.out _ HL3.out.bel).mono ?_); rintro e w4 ⟨rfl, hb⟩; have HL4 := Lib.hid ((HL3.out.step hb).alloc 23 #[.string a1, .string a2]); clear hb)
      | (go_at_call 22; (with_reducible refine (HCU.out _ HL4.out.bel).mono ?_); rintro e w5 ⟨bf, pt, fd, rfl, hpt, hb⟩; have HL5 := Lib.hid (HL4.out.step hb); have b1 : (pt.size : Int) ≤ k := (by omega); have b2 : (k : Int) ≤ pt.size := (by omega); clear hb hpt))
    clear x0 x1 HPA HCU
    obtain ⟨x0, x1⟩ := HL5.out.s2 (g := w.heap.size) (t := 23) (a := .string a1) (b := .string a2) (by simp)
    have hwr : IntKind.i64.wrap ((pt.size : Int) + j) = (pt.size : Int) + j := IntWalk.i64_in _ (by omega)
    have hz0 : (0 : Int) ≤ (pt.size : Int) + j := by omega
    go_region_held3 (fun w' => w'.cell? ⟨w.heap.size, 0, none⟩ = some (.string a1) ∧ w'.cell? ⟨w.heap.size, 1, none⟩ = some (.string a2)) (first | exact ⟨by assumption, by assumption⟩ | exact HL5.out.s2 (t := 23) (by simp) | exact HL5.out.drew.s2 (t := 23) (by simp) | exact HL6.out.s2 (t := 23) (by simp) | fail) (first
      | (go_at_call 17; (with_reducible refine (HMD.out _).mono ?_); rintro e w6 ⟨rfl, rfl⟩)
      | (go_at_call 23; (with_reducible refine (HFX2.out _ _ HL5.out.drew.bel ?e1).mono ?_); (case e1 => omega); rintro e w7 ⟨t2, Q, rfl, ht2, hQ, hb⟩; have HL6 := Lib.hid (HL5.out.drew.step hb); have HT2 := Lib.hid ht2; have HQ2 := Lib.hid hQ; clear hb ht2 hQ) | fail)
    all_goals
      clear hwr hz0 x0 x1 HFX2
      by_cases hk1 : k ≤ 100
      · have HPC := Lib.hid fun W hW => HPB.out t2 Q (min 100 (k + j)) W hW HT2.out (HQ2.out (by omega)) (by omega)
        have hpt : (pt.size : Int) ≤ 100 := by omega
        have he := fr_eql_self
        clear HPB HT2 HQ2
        go_upto_region 16 with (go_at_call 21; (with_reducible refine (HPC.out _ HL6.out.bel).mono ?_); rintro e w8 ⟨rfl, hb⟩; have HL7 := Lib.hid ((HL6.out.step hb).alloc 23 #[.string a1, .string a2]); clear hb)
        obtain ⟨x0, x1⟩ := HL7.out.s2 (g := w.heap.size) (t := 23) (a := .string a1) (b := .string a2) (by simp)
        obtain ⟨y0, y1⟩ := HL7.out.s2 (g := w4.heap.size) (t := 23) (a := .string a1) (b := .string a2) (by simp)
        obtain ⟨z0, z1⟩ := HL7.out.s2 (g := w8.heap.size) (t := 23) (a := .string a1) (b := .string a2) (by simp)
        go_wp2_with fail
        go_ret
        exact ⟨rfl, HL7.out.bel⟩
      · have hpt : (100 : Int) < pt.size := by omega
        go_wp2_with fail
        go_ret
        exact ⟨rfl, HL6.out.bel⟩
end Go.Proofs.YtliljihkoojggaaGreatDoor
