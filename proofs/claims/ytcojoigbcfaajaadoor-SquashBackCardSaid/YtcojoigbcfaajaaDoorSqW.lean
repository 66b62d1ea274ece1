/- slices.SortStableFunc's parts: symMerge. -/
import Derived.Test.YtcojoigbcfaajaaDoorSqV
namespace Go.Proofs.YtcojoigbcfaajaaDoor
open Go.Shelf Go.RowKit Go.Lib Go.Sort

theorem dec_no {x y : Int} (h : ¬ x < y) : decide (x < y) = false := decide_eq_false h
theorem sym_step {α : Type} [Inhabited α] (cf : α → α → Int) (d : Array α) {a m b : Nat} (h1 : a + 1 < m) (h2 : m + 1 < b) {s mid e : Nat} (hs : s = Sq.cutAt cf d a m b) (hmid : mid = (a + b) / 2) (he : e = mid + m - s) {l1 l2 : Array α} (hl1 : l1 = if s < m ∧ m < e then Sq.rot m (m - s) (e - m) d else d) (hl2 : l2 = if a < s ∧ s < mid then Sq.sym cf l1 a s mid else l1) :
    Sq.sym cf d a m b = if mid < e ∧ e < b then Sq.sym cf l2 mid e b else l2 := by
  rw [Sq.sym.eq_def, if_pos ⟨by omega, by omega⟩, if_neg (by omega), if_neg (by omega)]
  dsimp only
  rw [← hs, ← hmid, ← he, Sq.rotIf, ← hl1, ← hl2]
section
variable {P : Program} {α : Type} [Inhabited α]
set_option maxHeartbeats 8000000 in
set_option maxRecDepth 1000000 in
theorem sym3_w (L : SqL P) (k : Nat) (zE : ∀ w, (Go.sizeOf 71).run P w = .ok k w) (enc : α → List Value) (cf : α → α → Int) (g : Nat) (cb : Array Value) (blk off cap : Nat) (a m b : Nat) (ha : a + 1 < m) (hm : m + 1 < b) (d0 d : Array α) (w0 w : World)
    (eg : ∀ args w, (callFunc g args).run P w = .ok (.enter g args) w) (hcmp : CmpLays P g cb enc k cf blk off d0.size w0)
    (R : RowK enc k w0 blk off d0) (hs : d0.size = d.size) (S : SWK enc k w0 blk off d w) (hb : b ≤ d.size) (hsz : d.size < 4611686018427387904)
    (ih : ∀ a' m' b' dk W, b' - a' < b - a → a' < m' → m' < b' → b' ≤ d.size → dk.size = d.size → SWK enc k w0 blk off dk W → Calls P 40 #[.slice (some ⟨blk, off, none⟩) d.size cap, .int .i64 (a' : Nat), .int .i64 (m' : Nat), .int .i64 (b' : Nat), .func (.func g) #[] cb] W fun e w' => e = .returned (.tuple #[]) ∧ SWK enc k w0 blk off (Sq.sym cf dk a' m' b') w') :
    Calls P 40 #[.slice (some ⟨blk, off, none⟩) d.size cap, .int .i64 a, .int .i64 m, .int .i64 b, .func (.func g) #[] cb] w fun e w' => e = .returned (.tuple #[]) ∧ SWK enc k w0 blk off (Sq.sym cf d a m b) w' := by
  have HROT := Lib.hid (show ∀ (s e : Nat), s < m → m < e → e ≤ d.size → ∀ W, SWK enc k w0 blk off d W → Calls P 41 #[.slice (some ⟨blk, off, none⟩) d.size cap, .int .i64 s, .int .i64 m, .int .i64 e, .func (.func g) #[] cb] W fun e' w' => e' = .returned (.tuple #[]) ∧ SWK enc k w0 blk off (Sq.rot m (m - s) (e - m) d) w' from fun s e h1 h2 h3 W S => rot_wk L k zE enc g cb blk off cap s m e d0 d w0 W R hs S h1 h2 h3 hsz)
  have IH := Lib.hid ih
  have mixed := L.mixed; have t0 := L.t0; have a0 := L.a0; have z0 := L.z0; have v0 := L.v0; have t3 := L.t3; have a3 := L.a3; have z3 := L.z3; have v3 := L.v3; have t4 := L.t4; have a4 := L.a4; have z4 := L.z4; have v4 := L.v4; have t22 := L.t22; have a22 := L.a22; have z22 := L.z22; have v22 := L.v22; have t25 := L.t25; have a25 := L.a25; have z25 := L.z25; have v25 := L.v25; have aE := L.aE; have t30 := L.t30; have a30 := L.a30; have z30 := L.z30; have v30 := L.v30
  have FG := L.fsy
  have ero : ∀ args w, (callFunc 41 args).run P w = .ok (.enter 41 args) w := enters_of L.fro (by kernel_rfl) rfl
  have esy : ∀ args w, (callFunc 40 args).run P w = .ok (.enter 40 args) w := enters_of L.fsy (by kernel_rfl) rfl
  have S0 : Aside (SWK enc k w0 blk off d w) := S
  have c0 : ((m : Int) - (a : Int) == 1) = false := by rw [beq_eq_false_iff_ne]; omega
  have c1 : ((b : Int) - (m : Int) == 1) = false := by rw [beq_eq_false_iff_ne]; omega
  obtain ⟨mid, hmid⟩ : ∃ x, x = (a + b) / 2 := ⟨_, rfl⟩
  obtain ⟨n, hn⟩ : ∃ x, x = mid + m := ⟨_, rfl⟩
  obtain ⟨p, hp⟩ : ∃ x, x = n - 1 := ⟨_, rfl⟩
  obtain ⟨s0, hs0⟩ : ∃ x, x = if mid < m then n - b else a := ⟨_, rfl⟩
  obtain ⟨r0, hr0⟩ : ∃ x, x = if mid < m then mid else m := ⟨_, rfl⟩
  have em : ((a : Int) + (b : Int)) / 2 = (mid : Int) := by omega
  have en : (mid : Int) + (m : Int) = (n : Int) := by omega
  have ep : (n : Int) - 1 = (p : Int) := by omega
  have g1 : s0 ≤ r0 := by rw [hs0, hr0]; split <;> omega
  have g2 : a ≤ s0 ∧ r0 ≤ m ∧ r0 ≤ mid ∧ n - r0 ≤ b ∧ n ≤ s0 + b ∧ r0 ≤ n ∧ m ≤ n - r0 ∧ mid ≤ n - r0 := by rw [hs0, hr0]; split <;> omega
  have CUT := Lib.hid (show Sq.cutAt cf d a m b = Sq.bs (fun c => !decide (cf d[p - c]! d[c]! < 0)) s0 r0 from by unfold Sq.cutAt; rw [hs0, hr0, hp, hn, hmid])
  have HID := Lib.hid (show mid = (a + b) / 2 ∧ n = mid + m ∧ p = n - 1 from ⟨hmid, hn, hp⟩)
  have q1 : mid ≤ 4611686018427387904 := by omega
  have q2 : n ≤ 9223372036854775807 := by omega
  have q3 : 1 ≤ n := by omega
  have q4 : p + 1 = n := by omega
  have q5 : a < mid ∧ mid < b := by omega
  rcases Nat.lt_or_ge mid m with hc | hc
  all_goals
    first
      | (have cc : (mid : Int) < (m : Int) := by omega
         rw [if_pos hc] at hs0 hr0
         obtain rfl := hr0.symm
         have es : (n : Int) - (b : Int) = (s0 : Int) := by omega)
      | (have cc : ¬ (mid : Int) < (m : Int) := by omega
         rw [if_neg (by omega)] at hs0 hr0
         obtain rfl := hr0.symm
         obtain rfl := hs0.symm)
    (try clear hs0)
    clear hmid hn hp S L hc
    go_enter FG, Tryd.ntmps40
    go_wp2_with fail
    clear g2
    go_loopg [20, 21] b (fun kx s20 s21 wr => ∃ (s r : Nat), s20 = .int .i64 s ∧ s21 = .int .i64 r ∧ a ≤ s ∧ n ≤ s + b ∧ s ≤ r ∧ r ≤ m ∧ r ≤ mid ∧ r - s ≤ kx ∧ Aside (SWK enc k w0 blk off d wr) ∧ Hid (Sq.bs (fun c => !decide (cf d[p - c]! d[c]! < 0)) s r = Sq.cutAt cf d a m b))
    case atStart => exact ⟨_, _, rfl, rfl, by omega, by omega, by omega, by omega, by omega, by omega, S0, Lib.hid CUT.out.symm⟩
    case round =>
      clear S0 CUT
      obtain ⟨s, r, rfl, rfl, h1, h2, h3, h4, h5, hkx, S1, HE⟩ := hrel
      by_cases hlt : s < r
      · have hltz : (s : Int) < (r : Int) := by omega
        obtain ⟨h, hh⟩ : ∃ h, h = (s + r) / 2 := ⟨_, rfl⟩
        obtain ⟨q, hq⟩ : ∃ q, q = p - h := ⟨_, rfl⟩
        have eh : ((s : Int) + (r : Int)) / 2 = (h : Int) := by omega
        have eq : (p : Int) - (h : Int) = (q : Int) := by omega
        have wq : IntKind.i64.wrap (q : Int) = (q : Int) := by rw [IntKind.wrap_i64]; omega
        have bh : (h : Int) < (d.size : Int) := by omega
        have bq : (q : Int) < (d.size : Int) := by omega
        obtain ⟨xh, hxh⟩ : ∃ x, d[h]! = x := ⟨_, rfl⟩
        obtain ⟨xq, hxq⟩ : ∃ x, d[q]! = x := ⟨_, rfl⟩
        have lh := fun n os => S1.out.ld R hs.symm P h (by omega) n os
        have lq := fun n os => S1.out.ld R hs.symm P q (by omega) n os
        have hc := fun n os => S1.out.cmp hcmp hs.symm xq xh n os
        rw [hxh] at lh
        rw [hxq] at lq
        have SG := Lib.hid fun n os => S1.out.grown n os
        have XX := Lib.hid (show d[h]! = xh ∧ d[q]! = xq ∧ h = (s + r) / 2 ∧ q = p - h from ⟨hxh, hxq, hh, hq⟩)
        clear S1 hxh hxq hh hq
        by_cases hlv : cf xq xh < 0
        · go_wp2_with fail
          go_quiet_grown (first | (go_at_fn g; refine Calls.grown_of (hc _ _)))
          go_wp2_with fail
          go_roundg (h - s)
          case measure => have := XX.out.2.2.1; omega
          case rel =>
            have h9 := XX.out.2.2
            refine ⟨s, h, rfl, rfl, h1, h2, by omega, by omega, by omega, Nat.le_refl _, SG.out nq osq, Lib.hid ?_⟩
            rw [← HE.out, Sq.bs.eq_def _ s r, if_pos hlt, ← h9.1, if_neg (by rw [← h9.2, XX.out.1, XX.out.2.1]; simpa using hlv)]
        · have hB : decide (cf xq xh < 0) = false := decide_eq_false hlv
          go_wp2_with fail
          go_quiet_grown (first | (go_at_fn g; refine Calls.grown_of (hc _ _)))
          go_wp2_with fail
          go_roundg (r - (h + 1))
          case measure => have := XX.out.2.2.1; omega
          case rel =>
            have h9 := XX.out.2.2
            refine ⟨h + 1, r, by go_num, rfl, by omega, by omega, by omega, h4, h5, Nat.le_refl _, SG.out nq osq, Lib.hid ?_⟩
            rw [← HE.out, Sq.bs.eq_def _ s r, if_pos hlt, ← h9.1, if_pos (by rw [← h9.2, XX.out.1, XX.out.2.1]; simpa using hlv)]
      · have hltz : ¬ (s : Int) < (r : Int) := by omega
        obtain rfl : s = r := by omega
        have HI : Hid (s = Sq.cutAt cf d a m b) := by
          show s = _
          rw [← HE.out, Sq.bs.eq_def _ s s, if_neg (by omega)]
        clear HE hcmp eg
        obtain ⟨e, he⟩ : ∃ e, e = n - s := ⟨_, rfl⟩
        have ee : (n : Int) - (s : Int) = (e : Int) := by omega
        have j1 : e ≤ b := by omega
        have j2 : m ≤ e ∧ mid ≤ e := by omega
        have HF := Lib.hid (show e = mid + m - s by have := HID.out.2.1; omega)
        have HST := Lib.hid (fun (l1 l2 : Array α) (hl1 : l1 = if s < m ∧ m < e then Sq.rot m (m - s) (e - m) d else d) (hl2 : l2 = if a < s ∧ s < mid then Sq.sym cf l1 a s mid else l1) => sym_step cf d ha hm HI.out HID.out.1 HF.out hl1 hl2)
        obtain ⟨l1, hl1⟩ : ∃ l1, l1 = if s < m ∧ m < e then Sq.rot m (m - s) (e - m) d else d := ⟨_, rfl⟩
        obtain ⟨l2, hl2⟩ : ∃ l2, l2 = if a < s ∧ s < mid then Sq.sym cf l1 a s mid else l1 := ⟨_, rfl⟩
        have z1 : l1.size = d.size := by rw [hl1]; split; (rw [Sq.rot_len]); rfl
        have z2 : l2.size = d.size := by rw [hl2]; split; (rw [Sq.sym_len, z1]); exact z1
        have FIN := Lib.hid (HST.out l1 l2 hl1 hl2)
        clear HST HF HI he
        have A1 : Hid (∀ W, SWK enc k w0 blk off d W → (s < m ∧ m < e → Calls P 41 #[.slice (some ⟨blk, off, none⟩) d.size cap, .int .i64 s, .int .i64 m, .int .i64 e, .func (.func g) #[] cb] W fun e' w' => e' = .returned (.tuple #[]) ∧ SWK enc k w0 blk off l1 w') ∧ (¬ (s < m ∧ m < e) → SWK enc k w0 blk off l1 W)) := fun W S =>
          ⟨fun h => by rw [hl1, if_pos h]; exact HROT.out s e h.1 h.2 (by omega) W S, fun h => by rw [hl1, if_neg h]; exact S⟩
        have A2 : Hid (∀ W, SWK enc k w0 blk off l1 W → (a < s ∧ s < mid → Calls P 40 #[.slice (some ⟨blk, off, none⟩) d.size cap, .int .i64 a, .int .i64 s, .int .i64 mid, .func (.func g) #[] cb] W fun e' w' => e' = .returned (.tuple #[]) ∧ SWK enc k w0 blk off l2 w') ∧ (¬ (a < s ∧ s < mid) → SWK enc k w0 blk off l2 W)) := fun W S =>
          ⟨fun h => by rw [hl2, if_pos h]; exact IH.out a s mid l1 W (by omega) h.1 h.2 (by omega) z1 S, fun h => by rw [hl2, if_neg h]; exact S⟩
        have A3 : Hid (∀ W, SWK enc k w0 blk off l2 W → (mid < e ∧ e < b → Calls P 40 #[.slice (some ⟨blk, off, none⟩) d.size cap, .int .i64 mid, .int .i64 e, .int .i64 b, .func (.func g) #[] cb] W fun e' w' => e' = .returned (.tuple #[]) ∧ SWK enc k w0 blk off (Sq.sym cf d a m b) w') ∧ (¬ (mid < e ∧ e < b) → SWK enc k w0 blk off (Sq.sym cf d a m b) W)) := fun W S =>
          ⟨fun h => by rw [FIN.out, if_pos h]; exact IH.out mid e b l2 W (by omega) h.1 h.2 hb z2 S, fun h => by rw [FIN.out, if_neg h]; exact S⟩
        clear hl1 hl2 z1 z2 FIN HROT IH HID
        go_wp2_with (first
          | (go_at_fn 41; (with_reducible refine ((A1.out _ S1.out).1 ⟨by omega, by omega⟩).mono ?_); rintro e' w1 ⟨rfl, hw⟩; have S2 := Lib.hid hw; clear hw)
          | (go_at_fn 40; (with_reducible refine ((A2.out _ (by first | exact S2.out | exact (A1.out _ S1.out).2 (by omega))).1 ⟨by omega, by omega⟩).mono ?_); rintro e' w1 ⟨rfl, hw⟩; have S3 := Lib.hid hw; clear hw)
          | (go_at_fn 40; (with_reducible refine ((A3.out _ (by first | exact S3.out | exact (A2.out _ (by first | exact S2.out | exact (A1.out _ S1.out).2 (by omega))).2 (by omega))).1 ⟨by omega, by omega⟩).mono ?_); rintro e' w1 ⟨rfl, hw⟩; have S4 := Lib.hid hw; clear hw))
        all_goals
          go_end0
          exact ⟨rfl, (by first | exact S4.out | exact (A3.out _ (by first | exact S3.out | exact (A2.out _ (by first | exact S2.out | exact (A1.out _ S1.out).2 (by omega))).2 (by omega))).2 (by omega))⟩
end
end Go.Proofs.YtcojoigbcfaajaaDoor
