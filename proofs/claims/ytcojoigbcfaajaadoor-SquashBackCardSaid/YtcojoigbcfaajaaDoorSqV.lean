/- slices.SortStableFunc's parts: one element is merged. -/
import Derived.Test.YtcojoigbcfaajaaDoorSqU
namespace Go.Proofs.YtcojoigbcfaajaaDoor
open Go.Shelf Go.RowKit Go.Lib Go.Sort

section
variable {P : Program} {α : Type} [Inhabited α]
set_option maxHeartbeats 4000000 in
set_option maxRecDepth 1000000 in
theorem sym1_w (L : SqL P) (k : Nat) (zE : ∀ w, (Go.sizeOf 71).run P w = .ok k w) (enc : α → List Value) (cf : α → α → Int) (g : Nat) (cb : Array Value) (blk off cap : Nat) (a m b : Nat) (hm1 : m ≤ a + 1) (hm2 : a + 1 ≤ m) (d0 d : Array α) (w0 w : World)
    (eg : ∀ args w, (callFunc g args).run P w = .ok (.enter g args) w) (hcmp : CmpLays P g cb enc k cf blk off d0.size w0)
    (R : RowK enc k w0 blk off d0) (hs : d0.size = d.size) (S : SWK enc k w0 blk off d w) (hab : m < b) (hb : b ≤ d.size) (hsz : d.size < 4611686018427387904) :
    Calls P 40 #[.slice (some ⟨blk, off, none⟩) d.size cap, .int .i64 a, .int .i64 m, .int .i64 b, .func (.func g) #[] cb] w fun e w' => e = .returned (.tuple #[]) ∧ SWK enc k w0 blk off (Sq.sym cf d a m b) w' := by
  have mixed := L.mixed; have t0 := L.t0; have a0 := L.a0; have z0 := L.z0; have v0 := L.v0; have t3 := L.t3; have a3 := L.a3; have z3 := L.z3; have v3 := L.v3; have t4 := L.t4; have a4 := L.a4; have z4 := L.z4; have v4 := L.v4; have t22 := L.t22; have a22 := L.a22; have z22 := L.z22; have v22 := L.v22; have t25 := L.t25; have a25 := L.a25; have z25 := L.z25; have v25 := L.v25; have aE := L.aE; have t30 := L.t30; have a30 := L.a30; have z30 := L.z30; have v30 := L.v30
  have FG := L.fsy
  have S0 : Aside (SWK enc k w0 blk off d w) := S
  have c0 : ((m : Int) - (a : Int) == 1) = true := by rw [beq_iff_eq]; omega
  clear S L
  go_enter FG, Tryd.ntmps40
  go_wp2
  go_loopg [10, 11] (b - a) (fun kx s10 s11 wr => ∃ (i j : Nat), s10 = .int .i64 i ∧ s11 = .int .i64 j ∧ m ≤ i ∧ i ≤ j ∧ j ≤ b ∧ j - i ≤ kx ∧ Aside (SWK enc k w0 blk off d wr) ∧ Hid (Sq.bs (fun h => decide (cf d[h]! d[a]! < 0)) i j = Sq.bs (fun h => decide (cf d[h]! d[a]! < 0)) m b))
  case atStart => exact ⟨m, b, rfl, rfl, by omega, by omega, by omega, by omega, S0, Lib.hid rfl⟩
  case round =>
    clear S0
    obtain ⟨i, j, rfl, rfl, hai, hij, hjb, hkx, S1, HE⟩ := hrel
    by_cases hlt : i < j
    · have hltz : (i : Int) < (j : Int) := by omega
      obtain ⟨h, hh⟩ : ∃ h, h = (i + j) / 2 := ⟨_, rfl⟩
      have eh : ((i : Int) + (j : Int)) / 2 = (h : Int) := by omega
      have bh : (h : Int) < (d.size : Int) := by omega
      have ba : (a : Int) < (d.size : Int) := by omega
      obtain ⟨xh, hxh⟩ : ∃ x, d[h]! = x := ⟨_, rfl⟩
      obtain ⟨xa, hxa⟩ : ∃ x, d[a]! = x := ⟨_, rfl⟩
      have lh := fun n os => S1.out.ld R hs.symm P h (by omega) n os
      have la := fun n os => S1.out.ld R hs.symm P a (by omega) n os
      have hc := fun n os => S1.out.cmp hcmp hs.symm xh xa n os
      rw [hxh] at lh
      rw [hxa] at la
      have SG := Lib.hid fun n os => S1.out.grown n os
      have XX := Lib.hid (show d[h]! = xh ∧ d[a]! = xa ∧ h = (i + j) / 2 from ⟨hxh, hxa, hh⟩)
      clear S1 hxh hxa hh
      by_cases hlv : cf xh xa < 0
      · go_wp2_with fail
        go_quiet_grown (first | (go_at_fn g; refine Calls.grown_of (hc _ _)))
        go_wp2_with fail
        go_roundg (j - (h + 1))
        case measure => have := XX.out.2.2; omega
        case rel =>
          have h3 := XX.out.2.2
          refine ⟨h + 1, j, by go_num, rfl, by omega, by omega, by omega, Nat.le_refl _, SG.out nq osq, Lib.hid ?_⟩
          rw [← HE.out, Sq.bs.eq_def _ i j, if_pos hlt, ← h3, if_pos (by rw [XX.out.1, XX.out.2.1]; exact decide_eq_true hlv)]
      · go_wp2_with fail
        go_quiet_grown (first | (go_at_fn g; refine Calls.grown_of (hc _ _)))
        go_wp2_with fail
        go_roundg (h - i)
        case measure => have := XX.out.2.2; omega
        case rel =>
          have h3 := XX.out.2.2
          refine ⟨i, h, rfl, rfl, by omega, by omega, by omega, Nat.le_refl _, SG.out nq osq, Lib.hid ?_⟩
          rw [← HE.out, Sq.bs.eq_def _ i j, if_pos hlt, ← h3, if_neg (by rw [XX.out.1, XX.out.2.1]; simp [hlv])]
    · have hltz : ¬ (i : Int) < (j : Int) := by omega
      obtain rfl : i = j := by omega
      have HI : Hid (i = Sq.bs (fun h => decide (cf d[h]! d[a]! < 0)) m b) := by
        show i = _
        rw [← HE.out, Sq.bs.eq_def _ i i, if_neg (by omega)]
      clear HE hcmp eg
      have e1 : (i : Int) - 1 = ((i - 1 : Nat) : Int) := by omega
      go_wp2_with fail
      go_loopg [13] b (fun kx s13 wr => ∃ (q : Nat) (dk : Array α), s13 = .int .i64 q ∧ a ≤ q ∧ q ≤ i - 1 ∧ i - 1 - q ≤ kx ∧ dk.size = d.size ∧ Aside (SWK enc k w0 blk off dk wr) ∧ Hid (Sq.shU (i - 1 - q) q dk = Sq.shU (i - 1 - a) a d))
      case atStart => exact ⟨a, d, rfl, by omega, by omega, by omega, rfl, S1, Lib.hid rfl⟩
      case round =>
        clear S1
        obtain ⟨q, dk, rfl, hq1, hq2, hkx, hds, S1, HE⟩ := hrel
        by_cases hlq : q < i - 1
        · have hlz : (q : Int) < ((i - 1 : Nat) : Int) := by omega
          have f1 : ((q : Int) + 1).toNat = q + 1 := by omega
          have f2 : (0 : Int) ≤ (q : Int) + 1 := by omega
          have f3 : (q : Int) + 1 < (d.size : Int) := by omega
          have f4 : (q : Int) < (d.size : Int) := by omega
          have f5 : IntKind.i64.wrap ((q : Int) + 1) = (q : Int) + 1 := by rw [IntKind.wrap_i64]; omega
          have S2 : Aside (SWK enc k w0 blk off (swp dk q (q + 1)) ((wr.drew.setCells blk (off + q * k) (enc dk[q + 1]!)).setCells blk (off + (q + 1) * k) (enc dk[q]!))) := S1.out.swapped R q (q + 1) (by omega) (by omega)
          have la := S1.out.ld1 R (by omega) P q (by omega)
          have lb := S1.out.ld1 R (by omega) P (q + 1) (by omega)
          have sa := S1.out.st1 R (by omega) P q (by omega) dk[q + 1]!
          have sb := S1.out.st2 R (by omega) P q (q + 1) (by omega) (by omega) dk[q + 1]! dk[q]!
          have na : (enc dk[q]!).length = k := R.hk _
          have nb : (enc dk[q + 1]!).length = k := R.hk _
          generalize enc dk[q]! = cI at S2 la sb na
          generalize enc dk[q + 1]! = cJ at S2 lb sa sb nb
          have HR : Hid (RowK enc k w0 blk off d0) := R
          clear S1 R
          go_wp2_with fail
          go_big_region_o
          clear la lb sa sb
          generalize (wr.drew.setCells blk (off + q * k) cJ).setCells blk (off + (q + 1) * k) cI = w2 at S2 ⊢
          go_wp2
          go_roundg (i - 1 - (q + 1))
          case measure => omega
          case rel =>
            refine ⟨q + 1, swp dk q (q + 1), by go_num, by omega, by omega, Nat.le_refl _, by rw [size_swp]; exact hds, S2, Lib.hid ?_⟩
            rw [← HE.out, show i - 1 - q = (i - 1 - (q + 1)) + 1 by omega, Sq.shU, Sq.sw_of (by omega) (by omega)]
        · have hlz : ¬ (q : Int) < ((i - 1 : Nat) : Int) := by omega
          go_wp2
          (try simp only [Exit.inBlock, Exit.then]); refine bodyPost_ret (results_none rfl _ _ _) rfl ?_
          refine ⟨rfl, ?_⟩
          have h := HE.out
          rw [show i - 1 - q = 0 by omega, Sq.shU] at h
          rw [Sq.sym.eq_def, if_pos ⟨by omega, by omega⟩, if_pos (by omega), ← HI.out, ← h]
          exact S1.out
set_option maxHeartbeats 4000000 in
set_option maxRecDepth 1000000 in
theorem sym2_w (L : SqL P) (k : Nat) (zE : ∀ w, (Go.sizeOf 71).run P w = .ok k w) (enc : α → List Value) (cf : α → α → Int) (g : Nat) (cb : Array Value) (blk off cap : Nat) (a m b : Nat) (hm1 : b ≤ m + 1) (hm2 : m + 1 ≤ b) (d0 d : Array α) (w0 w : World)
    (eg : ∀ args w, (callFunc g args).run P w = .ok (.enter g args) w) (hcmp : CmpLays P g cb enc k cf blk off d0.size w0)
    (R : RowK enc k w0 blk off d0) (hs : d0.size = d.size) (S : SWK enc k w0 blk off d w) (hab : a + 1 < m) (hb : b ≤ d.size) (hsz : d.size < 4611686018427387904) :
    Calls P 40 #[.slice (some ⟨blk, off, none⟩) d.size cap, .int .i64 a, .int .i64 m, .int .i64 b, .func (.func g) #[] cb] w fun e w' => e = .returned (.tuple #[]) ∧ SWK enc k w0 blk off (Sq.sym cf d a m b) w' := by
  have mixed := L.mixed; have t0 := L.t0; have a0 := L.a0; have z0 := L.z0; have v0 := L.v0; have t3 := L.t3; have a3 := L.a3; have z3 := L.z3; have v3 := L.v3; have t4 := L.t4; have a4 := L.a4; have z4 := L.z4; have v4 := L.v4; have t22 := L.t22; have a22 := L.a22; have z22 := L.z22; have v22 := L.v22; have t25 := L.t25; have a25 := L.a25; have z25 := L.z25; have v25 := L.v25; have aE := L.aE; have t30 := L.t30; have a30 := L.a30; have z30 := L.z30; have v30 := L.v30
  have FG := L.fsy
  have S0 : Aside (SWK enc k w0 blk off d w) := S
  have c0 : ((m : Int) - (a : Int) == 1) = false := by rw [beq_eq_false_iff_ne]; omega
  have c1 : ((b : Int) - (m : Int) == 1) = true := by rw [beq_iff_eq]; omega
  clear S L
  go_enter FG, Tryd.ntmps40
  go_wp2
  go_loopg [14, 15] (m - a) (fun kx s10 s11 wr => ∃ (i j : Nat), s10 = .int .i64 i ∧ s11 = .int .i64 j ∧ a ≤ i ∧ i ≤ j ∧ j ≤ m ∧ j - i ≤ kx ∧ Aside (SWK enc k w0 blk off d wr) ∧ Hid (Sq.bs (fun h => !decide (cf d[m]! d[h]! < 0)) i j = Sq.bs (fun h => !decide (cf d[m]! d[h]! < 0)) a m))
  case atStart => exact ⟨a, m, rfl, rfl, by omega, by omega, by omega, by omega, S0, Lib.hid rfl⟩
  case round =>
    clear S0
    obtain ⟨i, j, rfl, rfl, hai, hij, hjb, hkx, S1, HE⟩ := hrel
    by_cases hlt : i < j
    · have hltz : (i : Int) < (j : Int) := by omega
      obtain ⟨h, hh⟩ : ∃ h, h = (i + j) / 2 := ⟨_, rfl⟩
      have eh : ((i : Int) + (j : Int)) / 2 = (h : Int) := by omega
      have bh : (h : Int) < (d.size : Int) := by omega
      have ba : (m : Int) < (d.size : Int) := by omega
      obtain ⟨xh, hxh⟩ : ∃ x, d[h]! = x := ⟨_, rfl⟩
      obtain ⟨xa, hxa⟩ : ∃ x, d[m]! = x := ⟨_, rfl⟩
      have lh := fun n os => S1.out.ld R hs.symm P h (by omega) n os
      have la := fun n os => S1.out.ld R hs.symm P m (by omega) n os
      have hc := fun n os => S1.out.cmp hcmp hs.symm xa xh n os
      rw [hxh] at lh
      rw [hxa] at la
      have SG := Lib.hid fun n os => S1.out.grown n os
      have XX := Lib.hid (show d[h]! = xh ∧ d[m]! = xa ∧ h = (i + j) / 2 from ⟨hxh, hxa, hh⟩)
      clear S1 hxh hxa hh
      by_cases hlv : cf xa xh < 0
      · go_wp2_with fail
        go_quiet_grown (first | (go_at_fn g; refine Calls.grown_of (hc _ _)))
        go_wp2_with fail
        go_roundg (h - i)
        case measure => have := XX.out.2.2; omega
        case rel =>
          have h3 := XX.out.2.2
          refine ⟨i, h, rfl, rfl, by omega, by omega, by omega, Nat.le_refl _, SG.out nq osq, Lib.hid ?_⟩
          rw [← HE.out, Sq.bs.eq_def _ i j, if_pos hlt, ← h3, if_neg (by rw [XX.out.1, XX.out.2.1]; simpa using hlv)]
      · have hB : decide (cf xa xh < 0) = false := decide_eq_false hlv
        go_wp2_with fail
        go_quiet_grown (first | (go_at_fn g; refine Calls.grown_of (hc _ _)))
        go_wp2_with fail
        go_roundg (j - (h + 1))
        case measure => have := XX.out.2.2; omega
        case rel =>
          have h3 := XX.out.2.2
          refine ⟨h + 1, j, by go_num, rfl, by omega, by omega, by omega, Nat.le_refl _, SG.out nq osq, Lib.hid ?_⟩
          rw [← HE.out, Sq.bs.eq_def _ i j, if_pos hlt, ← h3, if_pos (by rw [XX.out.1, XX.out.2.1]; simpa using hlv)]
    · have hltz : ¬ (i : Int) < (j : Int) := by omega
      obtain rfl : i = j := by omega
      have HI : Hid (i = Sq.bs (fun h => !decide (cf d[m]! d[h]! < 0)) a m) := by
        show i = _
        rw [← HE.out, Sq.bs.eq_def _ i i, if_neg (by omega)]
      clear HE hcmp eg
      go_wp2_with fail
      go_loopg [17] b (fun kx s17 wr => ∃ (q : Nat) (dk : Array α), s17 = .int .i64 q ∧ i ≤ q ∧ q ≤ m ∧ q - i ≤ kx ∧ dk.size = d.size ∧ Aside (SWK enc k w0 blk off dk wr) ∧ Hid (Sq.shD (q - i) q dk = Sq.shD (m - i) m d))
      case atStart => exact ⟨m, d, rfl, by omega, by omega, by omega, rfl, S1, Lib.hid rfl⟩
      case round =>
        clear S1
        obtain ⟨q, dk, rfl, hq1, hq2, hkx, hds, S1, HE⟩ := hrel
        by_cases hlq : i < q
        · have hlz : (i : Int) < (q : Int) := by omega
          obtain ⟨p, hp⟩ : ∃ p, p = q - 1 := ⟨_, rfl⟩
          have ep : (q : Int) - 1 = (p : Int) := by omega
          have f3 : (p : Int) < (d.size : Int) := by omega
          have f4 : (q : Int) < (d.size : Int) := by omega
          have S2 : Aside (SWK enc k w0 blk off (swp dk q p) ((wr.drew.setCells blk (off + q * k) (enc dk[p]!)).setCells blk (off + p * k) (enc dk[q]!))) := S1.out.swapped R q p (by omega) (by omega)
          have la := S1.out.ld1 R (by omega) P q (by omega)
          have lb := S1.out.ld1 R (by omega) P p (by omega)
          have sa := S1.out.st1 R (by omega) P q (by omega) dk[p]!
          have sb := S1.out.st2 R (by omega) P q p (by omega) (by omega) dk[p]! dk[q]!
          have na : (enc dk[q]!).length = k := R.hk _
          have nb : (enc dk[p]!).length = k := R.hk _
          generalize enc dk[q]! = cI at S2 la sb na
          generalize enc dk[p]! = cJ at S2 lb sa sb nb
          have HR : Hid (RowK enc k w0 blk off d0) := R
          have HP := Lib.hid hp
          clear S1 R hp
          go_wp2_with fail
          go_big_region_o
          clear la lb sa sb
          generalize (wr.drew.setCells blk (off + q * k) cJ).setCells blk (off + p * k) cI = w2 at S2 ⊢
          go_wp2
          have hp := HP.out
          go_roundg (p - i)
          case measure => omega
          case rel =>
            refine ⟨p, swp dk q p, rfl, by omega, by omega, Nat.le_refl _, by rw [size_swp]; exact hds, S2, Lib.hid ?_⟩
            rw [← HE.out, show q - i = (p - i) + 1 by omega, Sq.shD, ← hp, Sq.sw_of (by omega) (by omega)]
        · have hlz : ¬ (i : Int) < (q : Int) := by omega
          go_wp2
          (try simp only [Exit.inBlock, Exit.then]); refine bodyPost_ret (results_none rfl _ _ _) rfl ?_
          refine ⟨rfl, ?_⟩
          have h := HE.out
          rw [show q - i = 0 by omega, Sq.shD] at h
          rw [Sq.sym.eq_def, if_pos ⟨by omega, by omega⟩, if_neg (by omega), if_pos (by omega), ← HI.out, ← h]
          exact S1.out
end
end Go.Proofs.YtcojoigbcfaajaaDoor
