/- slices.symMergeCmpFunc of whole numbers. -/
import Derived.Test.YtllhefjblipddaaGreatDoorHac
set_option linter.unusedSimpArgs false
set_option linter.unusedVariables false
namespace Go.Proofs.YtllhefjblipddaaGreatDoor
open Go.RowKit
set_option maxRecDepth 100000 in
set_option maxHeartbeats 8000000 in
theorem sym1 (N B g c p a m b : Nat) (w0 w : World) (hs : SS N B g w0 w) (hc : CmpZ w0 g N p) (hm1 : m ≤ a + 1) (hm2 : a + 1 ≤ m) (hmb : m < b) (hb : b ≤ N) (hN : N ≤ 100000) :
    Calls Tryz.prog 193 #[.slice (some ⟨g, 0, none⟩) N c, .int .i64 (a : Int), .int .i64 (m : Int), .int .i64 (b : Int), .func (.func 103) #[] #[.pointer (some ⟨p, 0, none⟩)]] w fun e w' => e = .returned (.tuple #[]) ∧ SS N B g w0 w' := by
  have HC := Lib.hid hc
  have HS := Lib.hid hs
  clear hc hs
  have c0 : ((m : Int) - (a : Int) == 1) = true := by rw [beq_iff_eq]; omega
  have c1 : IntKind.i64.wrap ((m : Int) - (a : Int)) = 1 := by rw [IntWalk.i64_in _ (by omega)]; omega
  go_enter Tryz.func193, Tryz.ntmps193
  go_wp2_with fail
  go_loopg [10, 11] b (fun kx u10 u11 wr => ∃ i j : Nat, u10 = .int .i64 i ∧ u11 = .int .i64 j ∧ m ≤ i ∧ i ≤ j ∧ j ≤ b ∧ j - i ≤ kx ∧ Hid (SS N B g w0 wr))
  case atStart => exact ⟨m, b, rfl, rfl, by omega, by omega, by omega, by omega, HS⟩
  case round =>
    clear HS
    obtain ⟨i, j, rfl, rfl, hai, hij, hjb, hkx, HS⟩ := hrel
    by_cases hlt : i < j
    · have hlz : (i : Int) < (j : Int) := by omega
      obtain ⟨h, hh⟩ : ∃ h, h = (i + j) / 2 := ⟨_, rfl⟩
      have eh : ((i : Int) + (j : Int)) / 2 = (h : Int) := by omega
      have h0 : (0 : Int) ≤ (i : Int) + (j : Int) := by omega
      have hij1 : IntKind.i64.wrap ((i : Int) + (j : Int)) = (i : Int) + (j : Int) := IntWalk.i64_in _ (by omega)
      have hh1 : i ≤ h ∧ h < j := by omega
      have z1 : (0 : Int) ≤ (h : Int) := by omega
      have z2 : (h : Int) < (N : Int) := by omega
      have z5 : IntKind.i64.wrap ((h : Int) + 1) = (h : Int) + 1 := IntWalk.i64_in _ (by omega)
      have HH := Lib.hid hh1
      clear hh
      have z3 : (0 : Int) ≤ (a : Int) := by omega
      have z4 : (a : Int) < (N : Int) := by omega
      obtain ⟨x, hx, r0, r0b⟩ := HS.out.cell (i := h) (by omega)
      obtain ⟨y, hy, r1, r1b⟩ := HS.out.cell (i := a) (by omega)
      have HSS := Lib.hid (show ∀ W, Below wr.heap.size wr W → W.cell? ⟨g, h, none⟩ = some (.int .i64 (x : Int)) ∧ W.cell? ⟨g, a, none⟩ = some (.int .i64 (y : Int)) from fun W hW => ⟨r0b W hW, r1b W hW⟩)
      have HCC := Lib.hid fun W (h : Chg w0.heap.size [g] w0 W) => HC.out W h x y hx hy
      clear r0b r1b hx hy
      go_upto_region 5 with fail
      go_region_held3 (fun W => W.cell? ⟨g, h, none⟩ = some (.int .i64 (x : Int)) ∧ W.cell? ⟨g, a, none⟩ = some (.int .i64 (y : Int))) (first | exact ⟨by assumption, by assumption⟩ | exact HSS.out _ HB1.out) (first
        | (go_at_call 103; (with_reducible refine (HCC.out _ HS.out.drew.chg).mono ?_); rintro e w1 ⟨z, rfl, hb⟩; have HB1 := Lib.hid ((Below.refl wr.heap.size wr).drew.trans hb); have HS1 := Lib.hid (HS.out.drew.later hb); clear hb))
      by_cases hz : z < 0
      · have hB : decide (z < 0) = true := decide_eq_true hz
        have hB2 : ¬ 0 ≤ z := by omega
        have hB3 : (!decide (z < 0)) = false := by rw [hB]; rfl
        have hB4 : decide (0 ≤ z) = false := decide_eq_false hB2
        go_wp2_with fail
        go_roundg (j - (h + 1))
        case measure => have h9 := HH.out; omega
        case rel => have h9 := HH.out; exact ⟨h + 1, j, by go_num, rfl, by omega, by omega, by omega, Nat.le_refl _, HS1⟩
      · have hB : decide (z < 0) = false := decide_eq_false hz
        have hB2 : 0 ≤ z := by omega
        have hB3 : (!decide (z < 0)) = true := by rw [hB]; rfl
        have hB4 : decide (0 ≤ z) = true := decide_eq_true hB2
        go_wp2_with fail
        go_roundg (h - i)
        case measure => have h9 := HH.out; omega
        case rel => have h9 := HH.out; exact ⟨i, h, rfl, rfl, by omega, by omega, by omega, Nat.le_refl _, HS1⟩
    · have hlz : ¬ (i : Int) < (j : Int) := by omega
      obtain rfl : i = j := by omega
      obtain ⟨i1, hi1⟩ : ∃ i1, i = i1 + 1 := ⟨i - 1, by omega⟩
      have e1 : IntKind.i64.wrap ((i : Int) - 1) = (i1 : Int) := by rw [IntWalk.i64_in _ (by omega)]; omega
      have hi2 : i1 + 1 ≤ i ∧ i ≤ i1 + 1 := by omega
      clear hi1
      go_wp2_with fail
      go_loopg [13] b (fun kx u13 wr => ∃ q : Nat, u13 = .int .i64 q ∧ a ≤ q ∧ q ≤ i1 ∧ i1 - q ≤ kx ∧ Hid (SS N B g w0 wr))
      case atStart => exact ⟨a, rfl, by omega, by omega, by omega, HS⟩
      case round =>
        clear HS
        obtain ⟨q, rfl, hq1, hq2, hkx, HS⟩ := hrel
        by_cases hlq : q < i1
        · have hlz : (q : Int) < (i1 : Int) := by omega
          have f1 : ((q : Int) + 1).toNat = q + 1 := by omega
          have f2 : (0 : Int) ≤ (q : Int) + 1 := by omega
          have f3 : (q : Int) + 1 < (N : Int) := by omega
          have f4 : (q : Int) < (N : Int) := by omega
          have f6 : (0 : Int) ≤ (q : Int) := by omega
          have f5 : IntKind.i64.wrap ((q : Int) + 1) = (q : Int) + 1 := IntWalk.i64_in _ (by omega)
          obtain ⟨x, hx, r0, -⟩ := HS.out.cell (i := q) (by omega)
          obtain ⟨y, hy, r1, -⟩ := HS.out.cell (i := q + 1) (by omega)
          have q0 := HS.out.frozen (q)
          have q1 := HS.out.frozen (q + 1)
          have HSN := Lib.hid ((HS.out.swap (i := q) (j := q + 1) (by omega) (by omega) r0 r1).drew)
          clear HS
          go_wp2_with fail
          have mixed : Tryz.prog.follows Departure.mixedOrders = true := by kernel_rfl
          go_big_region_o
          clear r0 r1 q0 q1
          go_wp2_with fail
          go_roundg (i1 - (q + 1))
          case measure => omega
          case rel => exact ⟨q + 1, by go_num, by omega, by omega, Nat.le_refl _, HSN⟩
        · have hlz : ¬ (q : Int) < (i1 : Int) := by omega
          go_wp2_with fail
          (try simp only [Exit.inBlock, Exit.then]); refine bodyPost_ret (results_none rfl _ _ _) rfl ⟨rfl, HS.out⟩
set_option maxRecDepth 100000 in
set_option maxHeartbeats 8000000 in
theorem sym2 (N B g c p a m b : Nat) (w0 w : World) (hs : SS N B g w0 w) (hc : CmpZ w0 g N p) (hm1 : a + 1 < m) (hmb : b ≤ m + 1) (hmb2 : m + 1 ≤ b) (hb : b ≤ N) (hN : N ≤ 100000) :
    Calls Tryz.prog 193 #[.slice (some ⟨g, 0, none⟩) N c, .int .i64 (a : Int), .int .i64 (m : Int), .int .i64 (b : Int), .func (.func 103) #[] #[.pointer (some ⟨p, 0, none⟩)]] w fun e w' => e = .returned (.tuple #[]) ∧ SS N B g w0 w' := by
  have HC := Lib.hid hc
  have HS := Lib.hid hs
  clear hc hs
  have c0 : ((m : Int) - (a : Int) == 1) = false := by rw [beq_eq_false_iff_ne]; omega
  have c2 : ¬ (m : Int) - (a : Int) = 1 := by omega
  have c1 : IntKind.i64.wrap ((m : Int) - (a : Int)) = (m : Int) - (a : Int) := IntWalk.i64_in _ (by omega)
  have c3 : IntKind.i64.wrap ((b : Int) - (m : Int)) = 1 := by rw [IntWalk.i64_in _ (by omega)]; omega
  go_enter Tryz.func193, Tryz.ntmps193
  go_wp2_with fail
  go_loopg [14, 15] b (fun kx u10 u11 wr => ∃ i j : Nat, u10 = .int .i64 i ∧ u11 = .int .i64 j ∧ a ≤ i ∧ i ≤ j ∧ j ≤ m ∧ j - i ≤ kx ∧ Hid (SS N B g w0 wr))
  case atStart => exact ⟨a, m, rfl, rfl, by omega, by omega, by omega, by omega, HS⟩
  case round =>
    clear HS
    obtain ⟨i, j, rfl, rfl, hai, hij, hjb, hkx, HS⟩ := hrel
    by_cases hlt : i < j
    · have hlz : (i : Int) < (j : Int) := by omega
      obtain ⟨h, hh⟩ : ∃ h, h = (i + j) / 2 := ⟨_, rfl⟩
      have eh : ((i : Int) + (j : Int)) / 2 = (h : Int) := by omega
      have h0 : (0 : Int) ≤ (i : Int) + (j : Int) := by omega
      have hij1 : IntKind.i64.wrap ((i : Int) + (j : Int)) = (i : Int) + (j : Int) := IntWalk.i64_in _ (by omega)
      have hh1 : i ≤ h ∧ h < j := by omega
      have z1 : (0 : Int) ≤ (h : Int) := by omega
      have z2 : (h : Int) < (N : Int) := by omega
      have z5 : IntKind.i64.wrap ((h : Int) + 1) = (h : Int) + 1 := IntWalk.i64_in _ (by omega)
      have HH := Lib.hid hh1
      clear hh
      have z3 : (0 : Int) ≤ (m : Int) := by omega
      have z4 : (m : Int) < (N : Int) := by omega
      obtain ⟨x, hx, r0, r0b⟩ := HS.out.cell (i := m) (by omega)
      obtain ⟨y, hy, r1, r1b⟩ := HS.out.cell (i := h) (by omega)
      have HSS := Lib.hid (show ∀ W, Below wr.heap.size wr W → W.cell? ⟨g, m, none⟩ = some (.int .i64 (x : Int)) ∧ W.cell? ⟨g, h, none⟩ = some (.int .i64 (y : Int)) from fun W hW => ⟨r0b W hW, r1b W hW⟩)
      have HCC := Lib.hid fun W (h : Chg w0.heap.size [g] w0 W) => HC.out W h x y hx hy
      clear r0b r1b hx hy
      go_upto_region 17 with fail
      go_region_held3 (fun W => W.cell? ⟨g, m, none⟩ = some (.int .i64 (x : Int)) ∧ W.cell? ⟨g, h, none⟩ = some (.int .i64 (y : Int))) (first | exact ⟨by assumption, by assumption⟩ | exact HSS.out _ HB1.out) (first
        | (go_at_call 103; (with_reducible refine (HCC.out _ HS.out.drew.chg).mono ?_); rintro e w1 ⟨z, rfl, hb⟩; have HB1 := Lib.hid ((Below.refl wr.heap.size wr).drew.trans hb); have HS1 := Lib.hid (HS.out.drew.later hb); clear hb))
      by_cases hz : z < 0
      · have hB : decide (z < 0) = true := decide_eq_true hz
        have hB2 : ¬ 0 ≤ z := by omega
        have hB3 : (!decide (z < 0)) = false := by rw [hB]; rfl
        have hB4 : decide (0 ≤ z) = false := decide_eq_false hB2
        rw [hB3]
        go_wp2_with fail
        go_roundg (h - i)
        case measure => have h9 := HH.out; omega
        case rel => have h9 := HH.out; exact ⟨i, h, rfl, rfl, by omega, by omega, by omega, Nat.le_refl _, HS1⟩
      · have hB : decide (z < 0) = false := decide_eq_false hz
        have hB2 : 0 ≤ z := by omega
        have hB3 : (!decide (z < 0)) = true := by rw [hB]; rfl
        have hB4 : decide (0 ≤ z) = true := decide_eq_true hB2
        rw [hB3]
        go_wp2_with fail
        go_roundg (j - (h + 1))
        case measure => have h9 := HH.out; omega
        case rel => have h9 := HH.out; exact ⟨h + 1, j, by go_num, rfl, by omega, by omega, by omega, Nat.le_refl _, HS1⟩
    · have hlz : ¬ (i : Int) < (j : Int) := by omega
      obtain rfl : i = j := by omega
      go_wp2_with fail
      go_loopg [17] b (fun kx u13 wr => ∃ q : Nat, u13 = .int .i64 q ∧ i ≤ q ∧ q ≤ m ∧ q - i ≤ kx ∧ Hid (SS N B g w0 wr))
      case atStart => exact ⟨m, rfl, by omega, by omega, by omega, HS⟩
      case round =>
        clear HS
        obtain ⟨q, rfl, hq1, hq2, hkx, HS⟩ := hrel
        by_cases hlq : i < q
        · have hlz : (i : Int) < (q : Int) := by omega
          obtain ⟨p1, hp⟩ : ∃ p1, q = p1 + 1 := ⟨q - 1, by omega⟩
          have f1 : IntKind.i64.wrap ((q : Int) - 1) = (p1 : Int) := by rw [IntWalk.i64_in _ (by omega)]; omega
          have f3 : (p1 : Int) < (N : Int) := by omega
          have f4 : (q : Int) < (N : Int) := by omega
          have f6 : (0 : Int) ≤ (q : Int) := by omega
          have f7 : (0 : Int) ≤ (p1 : Int) := by omega
          have f8 : ¬ p1 = q := by omega
          have f9 : ¬ q = p1 := by omega
          have HP := Lib.hid hp
          obtain ⟨x, hx, r0, -⟩ := HS.out.cell (i := q) (by omega)
          obtain ⟨y, hy, r1, -⟩ := HS.out.cell (i := p1) (by omega)
          have q0 := HS.out.frozen (q)
          have q1 := HS.out.frozen (p1)
          have HSN := Lib.hid ((HS.out.swap (i := q) (j := p1) (by omega) (by omega) r0 r1).drew)
          clear HS hp
          go_wp2_with fail
          have mixed : Tryz.prog.follows Departure.mixedOrders = true := by kernel_rfl
          go_big_region_o
          clear r0 r1 q0 q1
          go_wp2_with fail
          go_roundg (p1 - i)
          case measure => have hp := HP.out; omega
          case rel => have hp := HP.out; exact ⟨p1, rfl, by omega, by omega, Nat.le_refl _, HSN⟩
        · have hlz : ¬ (i : Int) < (q : Int) := by omega
          go_wp2_with fail
          (try simp only [Exit.inBlock, Exit.then]); refine bodyPost_ret (results_none rfl _ _ _) rfl ⟨rfl, HS.out⟩
set_option maxRecDepth 100000 in
set_option maxHeartbeats 8000000 in
theorem sym3 (N B g c p a m b : Nat) (w0 w : World) (hs : SS N B g w0 w) (hc : CmpZ w0 g N p) (ha : a + 1 < m) (hmb : m + 1 < b)
    (ih : ∀ a' m' b' W, b' - a' < b - a → a' < m' → m' < b' → b' ≤ N → SS N B g w0 W → Calls Tryz.prog 193 #[.slice (some ⟨g, 0, none⟩) N c, .int .i64 (a' : Nat), .int .i64 (m' : Nat), .int .i64 (b' : Nat), .func (.func 103) #[] #[.pointer (some ⟨p, 0, none⟩)]] W fun e w' => e = .returned (.tuple #[]) ∧ SS N B g w0 w') (hb : b ≤ N) (hN : N ≤ 100000) :
    Calls Tryz.prog 193 #[.slice (some ⟨g, 0, none⟩) N c, .int .i64 (a : Int), .int .i64 (m : Int), .int .i64 (b : Int), .func (.func 103) #[] #[.pointer (some ⟨p, 0, none⟩)]] w fun e w' => e = .returned (.tuple #[]) ∧ SS N B g w0 w' := by
  have HC := Lib.hid hc
  have HS := Lib.hid hs
  clear hc hs
  have HROT := Lib.hid (show ∀ (s e : Nat), s < m → m < e → e ≤ N → ∀ W, SS N B g w0 W → Calls Tryz.prog 241 #[.slice (some ⟨g, 0, none⟩) N c, .int .i64 (s : Int), .int .i64 (m : Int), .int .i64 (e : Int), .func (.func 103) #[] #[.pointer (some ⟨p, 0, none⟩)]] W fun e' w' => e' = .returned (.tuple #[]) ∧ SS N B g w0 w' from fun s e h1 h2 h3 W h => rotI_any N B g c p s m e w0 W h h1 h2 h3 hN)
  have IH := Lib.hid ih
  clear ih
  have c0 : ((m : Int) - (a : Int) == 1) = false := by rw [beq_eq_false_iff_ne]; omega
  have c1 : ((b : Int) - (m : Int) == 1) = false := by rw [beq_eq_false_iff_ne]; omega
  have c2 : ¬ (m : Int) - (a : Int) = 1 := by omega
  have c3 : ¬ (b : Int) - (m : Int) = 1 := by omega
  have c4 : IntKind.i64.wrap ((m : Int) - (a : Int)) = (m : Int) - (a : Int) := IntWalk.i64_in _ (by omega)
  have c5 : IntKind.i64.wrap ((b : Int) - (m : Int)) = (b : Int) - (m : Int) := IntWalk.i64_in _ (by omega)
  obtain ⟨mid, hmid⟩ : ∃ x, x = (a + b) / 2 := ⟨_, rfl⟩
  obtain ⟨n, hn⟩ : ∃ x, x = mid + m := ⟨_, rfl⟩
  obtain ⟨pp, hp⟩ : ∃ x, x = n - 1 := ⟨_, rfl⟩
  obtain ⟨s0, hs0⟩ : ∃ x, x = if mid < m then n - b else a := ⟨_, rfl⟩
  obtain ⟨r0, hr0⟩ : ∃ x, x = if mid < m then mid else m := ⟨_, rfl⟩
  have em : ((a : Int) + (b : Int)) / 2 = (mid : Int) := by omega
  have e0 : (0 : Int) ≤ (a : Int) + (b : Int) := by omega
  have e1 : IntKind.i64.wrap ((a : Int) + (b : Int)) = (a : Int) + (b : Int) := IntWalk.i64_in _ (by omega)
  have en : IntKind.i64.wrap ((mid : Int) + (m : Int)) = (n : Int) := by rw [IntWalk.i64_in _ (by omega)]; omega
  have ep : IntKind.i64.wrap ((n : Int) - 1) = (pp : Int) := by rw [IntWalk.i64_in _ (by omega)]; omega
  have g1 : s0 ≤ r0 := by rw [hs0, hr0]; split <;> omega
  have g2 : a ≤ s0 ∧ r0 ≤ m ∧ r0 ≤ mid ∧ n ≤ s0 + b := by rw [hs0, hr0]; split <;> omega
  have q1 : mid ≤ 100000 := by omega
  have q2 : n ≤ 1000000 := by omega
  have q3 : 1 ≤ n := by omega
  have q4 : pp + 1 = n := by omega
  have q5 : a < mid ∧ mid < b := by omega
  have q6 : n = mid + m := hn
  have Q6 := Lib.hid q6
  rcases Nat.lt_or_ge mid m with hc | hc
  all_goals
    first
      | (have cc : (mid : Int) < (m : Int) := by omega
         rw [if_pos hc] at hs0 hr0
         obtain rfl := hr0.symm
         have es : IntKind.i64.wrap ((n : Int) - (b : Int)) = (s0 : Int) := by rw [IntWalk.i64_in _ (by omega)]; omega)
      | (have cc : ¬ (mid : Int) < (m : Int) := by omega
         rw [if_neg (by omega)] at hs0 hr0
         obtain rfl := hr0.symm
         obtain rfl := hs0.symm)
    (try clear hs0)
    clear hmid hn hp hc q6
    go_enter Tryz.func193, Tryz.ntmps193
    go_wp2_with fail
    go_loopg [20, 21] b (fun kx u20 u21 wr => ∃ s r : Nat, u20 = .int .i64 s ∧ u21 = .int .i64 r ∧ a ≤ s ∧ n ≤ s + b ∧ s ≤ r ∧ r ≤ m ∧ r ≤ mid ∧ r - s ≤ kx ∧ Hid (SS N B g w0 wr))
    case atStart => exact ⟨_, _, rfl, rfl, by omega, by omega, by omega, by omega, by omega, by omega, HS⟩
    case round =>
      clear HS
      obtain ⟨i, j, rfl, rfl, h1, h2, h3, h4, h5, hkx, HS⟩ := hrel
      by_cases hlt : i < j
      · have hlz : (i : Int) < (j : Int) := by omega
        obtain ⟨h, hh⟩ : ∃ h, h = (i + j) / 2 := ⟨_, rfl⟩
        have eh : ((i : Int) + (j : Int)) / 2 = (h : Int) := by omega
        have h0 : (0 : Int) ≤ (i : Int) + (j : Int) := by omega
        have hij1 : IntKind.i64.wrap ((i : Int) + (j : Int)) = (i : Int) + (j : Int) := IntWalk.i64_in _ (by omega)
        have hh1 : i ≤ h ∧ h < j := by omega
        have z1 : (0 : Int) ≤ (h : Int) := by omega
        have z2 : (h : Int) < (N : Int) := by omega
        have z5 : IntKind.i64.wrap ((h : Int) + 1) = (h : Int) + 1 := IntWalk.i64_in _ (by omega)
        have HH := Lib.hid hh1
        clear hh
        obtain ⟨q, hq⟩ : ∃ q, q = pp - h := ⟨_, rfl⟩
        have wq : IntKind.i64.wrap ((pp : Int) - (h : Int)) = (q : Int) := by rw [IntWalk.i64_in _ (by have := Q6.out; omega)]; have := Q6.out; omega
        have hqN : q < N := by have := Q6.out; omega
        have z3 : (0 : Int) ≤ (q : Int) := by omega
        have z4 : (q : Int) < (N : Int) := by omega
        clear hq
        obtain ⟨x, hx, r0, r0b⟩ := HS.out.cell (i := q) (by omega)
        obtain ⟨y, hy, r1, r1b⟩ := HS.out.cell (i := h) (by omega)
        have HSS := Lib.hid (show ∀ W, Below wr.heap.size wr W → W.cell? ⟨g, q, none⟩ = some (.int .i64 (x : Int)) ∧ W.cell? ⟨g, h, none⟩ = some (.int .i64 (y : Int)) from fun W hW => ⟨r0b W hW, r1b W hW⟩)
        have HCC := Lib.hid fun W (h : Chg w0.heap.size [g] w0 W) => HC.out W h x y hx hy
        clear r0b r1b hx hy
        go_upto_region 35 with fail
        go_region_held3 (fun W => W.cell? ⟨g, q, none⟩ = some (.int .i64 (x : Int)) ∧ W.cell? ⟨g, h, none⟩ = some (.int .i64 (y : Int))) (first | exact ⟨by assumption, by assumption⟩ | exact HSS.out _ HB1.out) (first
          | (go_at_call 103; (with_reducible refine (HCC.out _ HS.out.drew.chg).mono ?_); rintro e w1 ⟨z, rfl, hb⟩; have HB1 := Lib.hid ((Below.refl wr.heap.size wr).drew.trans hb); have HS1 := Lib.hid (HS.out.drew.later hb); clear hb))
        by_cases hz : z < 0
        · have hB : decide (z < 0) = true := decide_eq_true hz
          have hB2 : ¬ 0 ≤ z := by omega
          have hB3 : (!decide (z < 0)) = false := by rw [hB]; rfl
          have hB4 : decide (0 ≤ z) = false := decide_eq_false hB2
          rw [hB3]
          go_wp2_with fail
          go_roundg (h - i)
          case measure => have h9 := HH.out; omega
          case rel => have h9 := HH.out; exact ⟨i, h, rfl, rfl, h1, h2, by omega, by omega, by omega, Nat.le_refl _, HS1⟩
        · have hB : decide (z < 0) = false := decide_eq_false hz
          have hB2 : 0 ≤ z := by omega
          have hB3 : (!decide (z < 0)) = true := by rw [hB]; rfl
          have hB4 : decide (0 ≤ z) = true := decide_eq_true hB2
          rw [hB3]
          go_wp2_with fail
          go_roundg (j - (h + 1))
          case measure => have h9 := HH.out; omega
          case rel => have h9 := HH.out; exact ⟨h + 1, j, by go_num, rfl, by omega, by omega, by omega, by omega, by omega, Nat.le_refl _, HS1⟩
      · have hlz : ¬ (i : Int) < (j : Int) := by omega
        obtain rfl : i = j := by omega
        obtain ⟨e, he⟩ : ∃ e, e = n - i := ⟨_, rfl⟩
        have ee : IntKind.i64.wrap ((n : Int) - (i : Int)) = (e : Int) := by have := Q6.out; rw [IntWalk.i64_in _ (by omega)]; omega
        have j1 : e ≤ b := by omega
        have j2 : m ≤ e ∧ mid ≤ e := by have := Q6.out; omega
        have A1 := Lib.hid (show ∀ W, SS N B g w0 W → i < m → m < e → Calls Tryz.prog 241 #[.slice (some ⟨g, 0, none⟩) N c, .int .i64 (i : Int), .int .i64 (m : Int), .int .i64 (e : Int), .func (.func 103) #[] #[.pointer (some ⟨p, 0, none⟩)]] W fun e' w' => e' = .returned (.tuple #[]) ∧ SS N B g w0 w' from fun W h k1 k2 => HROT.out i e k1 k2 (by omega) W h)
        have A2 := Lib.hid (show ∀ W, SS N B g w0 W → a < i → i < mid → Calls Tryz.prog 193 #[.slice (some ⟨g, 0, none⟩) N c, .int .i64 (a : Int), .int .i64 (i : Int), .int .i64 (mid : Int), .func (.func 103) #[] #[.pointer (some ⟨p, 0, none⟩)]] W fun e' w' => e' = .returned (.tuple #[]) ∧ SS N B g w0 w' from fun W h k1 k2 => IH.out a i mid W (by omega) k1 k2 (by omega) h)
        have A3 := Lib.hid (show ∀ W, SS N B g w0 W → mid < e → e < b → Calls Tryz.prog 193 #[.slice (some ⟨g, 0, none⟩) N c, .int .i64 (mid : Int), .int .i64 (e : Int), .int .i64 (b : Int), .func (.func 103) #[] #[.pointer (some ⟨p, 0, none⟩)]] W fun e' w' => e' = .returned (.tuple #[]) ∧ SS N B g w0 w' from fun W h k1 k2 => IH.out mid e b W (by omega) k1 k2 hb h)
        clear he HROT IH HC
        go_wp2_with (first
          | (go_at_call 241; (with_reducible refine (A1.out _ HS.out (by omega) (by omega)).mono ?_); rintro e' w1 ⟨rfl, hw⟩; have HS := Lib.hid hw; clear hw)
          | (go_at_call 193; (with_reducible refine (A2.out _ HS.out (by omega) (by omega)).mono ?_); rintro e' w1 ⟨rfl, hw⟩; have HS := Lib.hid hw; clear hw)
          | (go_at_call 193; (with_reducible refine (A3.out _ HS.out (by omega) (by omega)).mono ?_); rintro e' w1 ⟨rfl, hw⟩; have HS := Lib.hid hw; clear hw))
        all_goals
          go_end0
          exact ⟨rfl, HS.out⟩
theorem sym_any (N B g c p : Nat) (w0 : World) (hc : CmpZ w0 g N p) (hN : N ≤ 100000) : ∀ (M a m b : Nat) (w : World), b - a < M → a < m → m < b → b ≤ N → SS N B g w0 w →
    Calls Tryz.prog 193 #[.slice (some ⟨g, 0, none⟩) N c, .int .i64 (a : Nat), .int .i64 (m : Nat), .int .i64 (b : Nat), .func (.func 103) #[] #[.pointer (some ⟨p, 0, none⟩)]] w fun e w' => e = .returned (.tuple #[]) ∧ SS N B g w0 w'
  | 0, _, _, _, _, h, _, _, _, _ => absurd h (Nat.not_lt_zero _)
  | M + 1, a, m, b, w, h, h1, h2, hb, hs => by
    by_cases k1 : m = a + 1
    · exact sym1 N B g c p a m b w0 w hs hc (by omega) (by omega) h2 hb hN
    · by_cases k2 : b = m + 1
      · exact sym2 N B g c p a m b w0 w hs hc (by omega) (by omega) (by omega) hb hN
      · exact sym3 N B g c p a m b w0 w hs hc (by omega) (by omega) (fun a' m' b' W i1 i2 i3 i4 i5 => sym_any N B g c p w0 hc hN M a' m' b' W (by omega) i2 i3 i4 i5) hb hN
end Go.Proofs.YtllhefjblipddaaGreatDoor

namespace Go.Proofs.YtllhefjblipddaaGreatDoor
open Go.RowKit

set_option maxRecDepth 100000 in
set_option maxHeartbeats 8000000 in
theorem stabI_any (N B g c p : Nat) (w0 w : World) (hs : SS N B g w0 w) (hc : CmpZ w0 g N p) (hN : N ≤ 10000) :
    Calls Tryz.prog 143 #[.slice (some ⟨g, 0, none⟩) N c, .int .i64 (N : Int), .func (.func 103) #[] #[.pointer (some ⟨p, 0, none⟩)]] w fun e w' => e = .returned (.tuple #[]) ∧ SS N B g w0 w' := by
  have HINS := Lib.hid fun (a b : Nat) W (h : SS N B g w0 W) (h1 : a ≤ b) (h2 : b ≤ N) => insI_any N B g c p a b w0 W h hc h1 h2 (by omega)
  have HSYM := Lib.hid fun (a m b : Nat) W (h : SS N B g w0 W) (h1 : a < m) (h2 : m < b) (h3 : b ≤ N) => sym_any N B g c p w0 hc (by omega) (b - a + 1) a m b W (by omega) h1 h2 h3 h
  have HS := Lib.hid hs
  clear hs hc
  go_enter Tryz.func143, Tryz.ntmps143
  go_wp2_with fail
  go_loopw [7, 8] (fun u7 u8 wr => ∃ a b : Nat, u7 = .int .i64 a ∧ u8 = .int .i64 b ∧ b = a + 20 ∧ a ≤ N ∧ Hid (SS N B g w0 wr)) (fun u _ _ => N + 1 - (intOf u).toNat)
  case atStart => exact ⟨0, 20, rfl, rfl, rfl, by omega, HS⟩
  case round =>
    clear HS
    obtain ⟨a, b, rfl, rfl, hb, han, HS⟩ := hrel
    by_cases hle : b ≤ N
    · have hlz : (b : Int) ≤ (N : Int) := by omega
      have b1 : IntKind.i64.wrap ((b : Int) + 20) = (b : Int) + 20 := IntWalk.i64_in _ (by omega)
      have HC := Lib.hid (HINS.out a b wr HS.out (by omega) hle)
      have HB := Lib.hid hb
      clear HS hb
      go_wp2_with (go_at_call 192; (with_reducible refine HC.out.mono ?_); rintro e w1 ⟨rfl, hw⟩; have HS := Lib.hid hw; clear hw)
      go_roundw
      case rel => exact ⟨b, b + 20, rfl, by go_num, rfl, hle, HS⟩
      case measure => have := HB.out; simp [intOf]; omega
    · have hlz : ¬ (b : Int) ≤ (N : Int) := by omega
      have HC := Lib.hid (HINS.out a N wr HS.out han (Nat.le_refl _))
      clear HS hb
      go_wp2_with (go_at_call 192; (with_reducible refine HC.out.mono ?_); rintro e w1 ⟨rfl, hw⟩; have HS := Lib.hid hw; clear hw)
      go_loopw [6, 7, 8, 9] (fun u6 _ _ _ wr => ∃ bz : Nat, u6 = .int .i64 bz ∧ 20 ≤ bz ∧ bz ≤ 2 * N + 20 ∧ Hid (SS N B g w0 wr)) (fun u _ _ _ _ => N - (intOf u).toNat)
      case atStart => exact ⟨20, rfl, by omega, by omega, HS⟩
      case round =>
        clear HS
        obtain ⟨bz, rfl, hz1, hz2, HS⟩ := hrel
        by_cases hlt : bz < N
        · have hlz : (bz : Int) < (N : Int) := by omega
          have b1 : IntKind.i64.wrap (2 * (bz : Int)) = 2 * (bz : Int) := IntWalk.i64_in _ (by omega)
          have b2 : IntKind.i64.wrap ((bz : Int) * 2) = (bz : Int) * 2 := IntWalk.i64_in _ (by omega)
          go_wp2_with fail
          go_loopw [7, 8] (fun u7 u8 wq => ∃ x y : Nat, u7 = .int .i64 x ∧ u8 = .int .i64 y ∧ y ≤ x + 2 * bz ∧ x + 2 * bz ≤ y ∧ x ≤ N ∧ Hid (SS N B g w0 wq)) (fun u _ _ => N + 1 - (intOf u).toNat)
          case atStart => exact ⟨0, 2 * bz, rfl, by go_num, by omega, by omega, by omega, HS⟩
          case round =>
            clear HS
            obtain ⟨x, y, rfl, rfl, y1, y2, hxn, HS⟩ := hrel
            obtain ⟨v, hv⟩ : ∃ v, v = x + bz := ⟨_, rfl⟩
            have ev : IntKind.i64.wrap ((x : Int) + (bz : Int)) = (v : Int) := by rw [IntWalk.i64_in _ (by omega)]; omega
            have b3 : IntKind.i64.wrap ((y : Int) + 2 * (bz : Int)) = (y : Int) + 2 * (bz : Int) := IntWalk.i64_in _ (by omega)
            by_cases hle : y ≤ N
            · have hlz : (y : Int) ≤ (N : Int) := by omega
              have HC := Lib.hid (HSYM.out x v y wr HS.out (by omega) (by omega) hle)
              clear HS hv
              go_wp2_with (go_at_call 193; (with_reducible refine HC.out.mono ?_); rintro e w1 ⟨rfl, hw⟩; have HS := Lib.hid hw; clear hw)
              go_roundw
              case rel => exact ⟨y, y + 2 * bz, rfl, by go_num, by omega, by omega, hle, HS⟩
              case measure => simp [intOf]; omega
            · have hlz : ¬ (y : Int) ≤ (N : Int) := by omega
              by_cases hvn : v < N
              · have hvz : (v : Int) < (N : Int) := by omega
                have HC := Lib.hid (HSYM.out x v N wr HS.out (by omega) hvn (Nat.le_refl _))
                clear HS hv
                go_wp2_with (go_at_call 193; (with_reducible refine HC.out.mono ?_); rintro e w1 ⟨rfl, hw⟩; have HS := Lib.hid hw; clear hw)
                go_roundw
                case rel => exact ⟨2 * bz, by go_num, by omega, by omega, HS⟩
                case measure => simp [intOf]; omega
              · have hvz : ¬ (v : Int) < (N : Int) := by omega
                clear hv
                go_wp2_with fail
                go_roundw
                case rel => exact ⟨2 * bz, by go_num, by omega, by omega, HS⟩
                case measure => simp [intOf]; omega
        · have hlz : ¬ (bz : Int) < (N : Int) := by omega
          go_wp2_with fail
          go_end0
          exact ⟨rfl, HS.out⟩
set_option maxRecDepth 100000 in
set_option maxHeartbeats 4000000 in
theorem sortI_any (N B g c p : Nat) (w : World) (hs : SS N B g w w) (hc : CmpZ w g N p) (hN : N ≤ 10000) :
    Calls Tryz.prog 102 #[.slice (some ⟨g, 0, none⟩) N c, .func (.func 103) #[] #[.pointer (some ⟨p, 0, none⟩)]] w fun e w' => e = .returned (.tuple #[]) ∧ SS N B g w w' := by
  have HI := Lib.hid (stabI_any N B g c p w w hs hc hN)
  clear hs hc
  go_enter Tryz.func102, Tryz.ntmps102
  go_wp2_with (go_at_call 143; (with_reducible refine HI.out.mono ?_); rintro e w1 ⟨rfl, hw⟩; have HS := Lib.hid hw; clear hw)
  go_end0
  exact ⟨rfl, HS.out⟩
end Go.Proofs.YtllhefjblipddaaGreatDoor
