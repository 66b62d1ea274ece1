/- slices.SortStableFunc of bundles: it sorts as the plain function does. -/
import Derived.Test.YtcojoigbcfaajaaDoorSqW
namespace Go.Proofs.YtcojoigbcfaajaaDoor
open Go.Shelf Go.RowKit Go.Lib Go.Sort

namespace Sq
variable {α : Type} [Inhabited α]
theorem insInner_eq (cf : α → α → Int) (a : Nat) : ∀ (j : Nat) (d : Array α), j < d.size → insInner (ltOf cf) a j d = insJ cf a j d
  | 0, _, _ => rfl
  | j + 1, d, h => by
    rw [insInner, insJ]
    by_cases hc : a < j + 1 ∧ cf d[j + 1]! d[j]! < 0
    · rw [if_pos hc, if_pos (by unfold ltOf; simp only [Bool.and_eq_true, decide_eq_true_eq]; exact hc), sw_of h (by omega)]
      exact insInner_eq cf a j _ (by rw [size_swp]; omega)
    · rw [if_neg hc, if_neg (by unfold ltOf; simp only [Bool.and_eq_true, decide_eq_true_eq]; exact hc)]
theorem insOuter_eq (cf : α → α → Int) (a b : Nat) : ∀ (k i : Nat) (d : Array α), b - i = k → b ≤ d.size → insOuter (ltOf cf) a b i d = insO cf a k i d
  | 0, i, d, h, _ => by rw [insOuter.eq_def, if_neg (by omega)]; rfl
  | k + 1, i, d, h, hb => by
    rw [insOuter.eq_def, if_pos (by omega), insO, insInner_eq cf a i d (by omega)]
    exact insOuter_eq cf a b k (i + 1) _ (by omega) (by rw [(insJ_perm cf a i d).size_eq]; exact hb)
theorem ins_eq (cf : α → α → Int) (d : Array α) (a b : Nat) (hb : b ≤ d.size) : insertionSort (ltOf cf) d a b = ins cf d a b := insOuter_eq cf a b _ _ d rfl hb
end Sq

section
variable {P : Program} {α : Type} [Inhabited α]
theorem ins_w (L : SlLaysF0.n20 P sqRen) (k : Nat) (aE : ∀ w, (isAgg 71).run P w = .ok true w) (zE : ∀ w, (Go.sizeOf 71).run P w = .ok k w) (enc : α → List Value) (cf : α → α → Int) (g : Nat) (cb : Array Value) (blk off cap a b : Nat) (d0 d : Array α) (w0 w : World)
    (eg : ∀ args w, (callFunc g args).run P w = .ok (.enter g args) w) (hcmp : CmpLays P g cb enc k cf blk off d0.size w0) (R : RowK enc k w0 blk off d0) (hs : d0.size = d.size) (S : SWK enc k w0 blk off d w) (hab : a ≤ b) (hb : b ≤ d.size) (hsz : d.size < 4611686018427387904) :
    Calls P 39 #[.slice (some ⟨blk, off, none⟩) d.size cap, .int .i64 a, .int .i64 b, .func (.func g) #[] cb] w fun e w' => e = .returned (.tuple #[]) ∧ SWK enc k w0 blk off (Sq.ins cf d a b) w' := by
  have hC : CmpLays P g cb enc k cf blk off d.size w := fun m os dk hdk x y => by
    obtain ⟨n0, os0, rfl⟩ := S
    rw [sortWorldK_on enc k w0 blk off n0 m d dk os0 os R.hblk hdk]
    exact hcmp _ _ dk (by omega) x y
  refine (AnyQ.insertionSortCmpFunc (ρ := sqRen) L k aE zE enc R.hk R.h1 cf g cb blk off cap a b d w eg hC (S.holds R.hblk R.hH hs.symm) (S.lt R.hblk) hab hb hsz).mono ?_
  rintro e w' ⟨rfl, n, os, rfl⟩
  rw [Sq.ins_eq cf d a b hb]
  exact ⟨rfl, S.on R.hblk n _ os (Sq.ins_len cf d a b)⟩
theorem sym_w (L : SqL P) (k : Nat) (zE : ∀ w, (Go.sizeOf 71).run P w = .ok k w) (enc : α → List Value) (cf : α → α → Int) (g : Nat) (cb : Array Value) (blk off cap : Nat) (d0 : Array α) (w0 : World)
    (eg : ∀ args w, (callFunc g args).run P w = .ok (.enter g args) w) (hcmp : CmpLays P g cb enc k cf blk off d0.size w0)
    (R : RowK enc k w0 blk off d0) (hsz : d0.size < 4611686018427387904) : ∀ (N a m b : Nat) (d : Array α) (w : World), b - a < N → a < m → m < b → b ≤ d0.size → d.size = d0.size → SWK enc k w0 blk off d w →
    Calls P 40 #[.slice (some ⟨blk, off, none⟩) d0.size cap, .int .i64 a, .int .i64 m, .int .i64 b, .func (.func g) #[] cb] w fun e w' => e = .returned (.tuple #[]) ∧ SWK enc k w0 blk off (Sq.sym cf d a m b) w'
  | 0, _, _, _, _, _, h, _, _, _, _, _ => absurd h (Nat.not_lt_zero _)
  | N + 1, a, m, b, d, w, h, h1, h2, hb, hs, S => by
    by_cases c1 : m = a + 1
    · have := sym1_w L k zE enc cf g cb blk off cap a m b (by omega) (by omega) d0 d w0 w eg hcmp R hs.symm S h2 (by omega) (by omega)
      rwa [hs] at this
    · by_cases c2 : b = m + 1
      · have := sym2_w L k zE enc cf g cb blk off cap a m b (by omega) (by omega) d0 d w0 w eg hcmp R hs.symm S (by omega) (by omega) (by omega)
        rwa [hs] at this
      · have := sym3_w L k zE enc cf g cb blk off cap a m b (by omega) (by omega) d0 d w0 w eg hcmp R hs.symm S (by omega) (by omega) (fun a' m' b' dk W i1 i2 i3 i4 i5 i6 => by
          rw [hs]
          exact sym_w L k zE enc cf g cb blk off cap d0 w0 eg hcmp R hsz N a' m' b' dk W (by omega) i2 i3 (by omega) (by omega) i6)
        rwa [hs] at this
theorem blks_len (cf : α → α → Int) (bz n a b : Nat) (l : Array α) : (Sq.blks cf bz n a b l).size = l.size := (Sq.blks_perm cf bz n a b l).size_eq
theorem mrgs_len (cf : α → α → Int) (bz n a b : Nat) (l : Array α) : (Sq.mrgs cf bz n a b l).size = l.size := (Sq.mrgs_perm cf bz n a b l).size_eq
set_option maxHeartbeats 8000000 in
set_option maxRecDepth 1000000 in
theorem stab_w (L : SqL P) (L20 : SlLaysF0.n20 P sqRen) (k : Nat) (zE : ∀ w, (Go.sizeOf 71).run P w = .ok k w) (enc : α → List Value) (cf : α → α → Int) (g : Nat) (cb : Array Value) (blk off cap : Nat) (d : Array α) (w : World)
    (eg : ∀ args w, (callFunc g args).run P w = .ok (.enter g args) w) (hcmp : CmpLays P g cb enc k cf blk off d.size w)
    (R : RowK enc k w blk off d) (hsz : d.size < 1152921504606846976) :
    Calls P 36 #[.slice (some ⟨blk, off, none⟩) d.size cap, .int .i64 d.size, .func (.func g) #[] cb] w fun e w' => e = .returned (.tuple #[]) ∧ SWK enc k w blk off (Sq.stab cf d) w' := by
  have HINS := Lib.hid (show ∀ (a b : Nat) (dk : Array α) W, a ≤ b → b ≤ d.size → dk.size = d.size → SWK enc k w blk off dk W → Calls P 39 #[.slice (some ⟨blk, off, none⟩) d.size cap, .int .i64 a, .int .i64 b, .func (.func g) #[] cb] W fun e w' => e = .returned (.tuple #[]) ∧ SWK enc k w blk off (Sq.ins cf dk a b) w' from fun a b dk W h1 h2 h3 S => by
    have := ins_w L20 k L.aE zE enc cf g cb blk off cap a b d dk w W eg hcmp R h3.symm S h1 (by omega) (by omega)
    rwa [h3] at this)
  have HSYM := Lib.hid (show ∀ (a m b : Nat) (dk : Array α) W, a < m → m < b → b ≤ d.size → dk.size = d.size → SWK enc k w blk off dk W → Calls P 40 #[.slice (some ⟨blk, off, none⟩) d.size cap, .int .i64 a, .int .i64 m, .int .i64 b, .func (.func g) #[] cb] W fun e w' => e = .returned (.tuple #[]) ∧ SWK enc k w blk off (Sq.sym cf dk a m b) w' from fun a m b dk W h1 h2 h3 h4 S => sym_w L k zE enc cf g cb blk off cap d w eg hcmp R (by omega) (b - a + 1) a m b dk W (by omega) h1 h2 h3 h4 S)
  have mixed := L.mixed; have t0 := L.t0; have a0 := L.a0; have z0 := L.z0; have v0 := L.v0; have t3 := L.t3; have a3 := L.a3; have z3 := L.z3; have v3 := L.v3; have t4 := L.t4; have a4 := L.a4; have z4 := L.z4; have v4 := L.v4; have t22 := L.t22; have a22 := L.a22; have z22 := L.z22; have v22 := L.v22; have t25 := L.t25; have a25 := L.a25; have z25 := L.z25; have v25 := L.v25; have aE := L.aE
  have FG := L.fst
  have ein : ∀ args w, (callFunc 39 args).run P w = .ok (.enter 39 args) w := L20.f20.enters rfl
  have esy : ∀ args w, (callFunc 40 args).run P w = .ok (.enter 40 args) w := enters_of L.fsy (by kernel_rfl) rfl
  have S0 := Lib.hid (SWK.start R.hH)
  obtain ⟨n, hn⟩ : ∃ n, n = d.size := ⟨_, rfl⟩
  have HN := Lib.hid hn
  rw [← hn] at hsz HINS HSYM ⊢
  clear R hcmp eg L L20 hn
  go_enter FG, Tryd.ntmps36
  go_wp2_with fail
  go_loopg [7, 8] (n + 1) (fun kx s7 s8 wr => ∃ (a b : Nat) (dk : Array α), s7 = .int .i64 a ∧ s8 = .int .i64 b ∧ b = a + 20 ∧ a ≤ n ∧ n + 1 - a ≤ kx ∧ Hid (dk.size = n) ∧ Hid (SWK enc k w blk off dk wr) ∧ Hid (Sq.blks cf 20 n a b dk = Sq.blks cf 20 n 0 20 d))
  case atStart => exact ⟨0, 20, d, rfl, rfl, rfl, by omega, by omega, Lib.hid HN.out.symm, S0, Lib.hid rfl⟩
  case round =>
    clear S0
    obtain ⟨a, b, dk, rfl, rfl, hb, han, hkx, HD, S1, HE⟩ := hrel
    by_cases hle : b ≤ n
    · have hlz : (b : Int) ≤ (n : Int) := by omega
      have HC := Lib.hid (HINS.out a b dk wr (by omega) hle HD.out S1.out)
      have HB := Lib.hid hb
      have hb1 : b ≤ a + 20 := by omega
      have hb2 : a + 20 ≤ b := by omega
      clear S1 hb
      go_wp2_with (go_at_fn 39; (with_reducible refine HC.out.mono ?_); rintro e w1 ⟨rfl, hw⟩; have S2 := Lib.hid hw; clear hw)
      go_roundg (n + 1 - b)
      case measure => omega
      case rel =>
        refine ⟨b, b + 20, Sq.ins cf dk a b, rfl, by go_num, rfl, hle, Nat.le_refl _, Lib.hid (by rw [Sq.ins_len]; exact HD.out), S2, Lib.hid ?_⟩
        rw [← HE.out, Sq.blks.eq_def cf 20 n a b dk, if_pos ⟨by decide, hle⟩]
    · have hlz : ¬ (b : Int) ≤ (n : Int) := by omega
      have HC := Lib.hid (HINS.out a n dk wr han (Nat.le_refl _) HD.out S1.out)
      have hr : Sq.ins cf dk a n = Sq.blks cf 20 n 0 20 d := by rw [← HE.out, Sq.blks.eq_def cf 20 n a b dk, if_neg (by omega)]
      rw [hr] at HC
      clear S1 hb HE hr HD
      go_wp2_with (go_at_fn 39; (with_reducible refine HC.out.mono ?_); rintro e w1 ⟨rfl, hw⟩; have S2 := Lib.hid hw; clear hw)
      go_loopg [6, 7, 8, 9] n (fun kx s6 _ _ _ wr => ∃ (bz : Nat) (dk : Array α), s6 = .int .i64 bz ∧ 20 ≤ bz ∧ n - bz ≤ kx ∧ bz ≤ 2 * n + 20 ∧ Hid (dk.size = n) ∧ Hid (SWK enc k w blk off dk wr) ∧ Hid (Sq.mrgO cf n bz dk = Sq.stab cf d))
      case atStart => exact ⟨20, _, rfl, by omega, by omega, by omega, Lib.hid (by rw [blks_len]; exact HN.out.symm), S2, Lib.hid (by rw [Sq.stab, ← HN.out])⟩
      case round =>
        clear S2
        obtain ⟨bz, dk, rfl, hz1, hkx, hz2, HD, S1, HE⟩ := hrel
        by_cases hlt : bz < n
        · have hlz : (bz : Int) < (n : Int) := by omega
          go_wp2_with fail
          go_loopg [7, 8] (n + 1) (fun ky s7 s8 wq => ∃ (x y : Nat) (dj : Array α), s7 = .int .i64 x ∧ s8 = .int .i64 y ∧ y ≤ x + 2 * bz ∧ x + 2 * bz ≤ y ∧ x ≤ n ∧ n + 1 - x ≤ ky ∧ Hid (dj.size = n) ∧ Hid (SWK enc k w blk off dj wq) ∧ Hid (Sq.mrgs cf bz n x y dj = Sq.mrgs cf bz n 0 (2 * bz) dk))
          case atStart => exact ⟨0, 2 * bz, dk, rfl, by go_num, by omega, by omega, by omega, by omega, HD, S1, Lib.hid rfl⟩
          case round =>
            clear S1
            obtain ⟨x, y, dj, rfl, rfl, y1, y2, hxn, hky, HDj, S3, HEj⟩ := hrel
            obtain ⟨v, hv⟩ : ∃ v, v = x + bz := ⟨_, rfl⟩
            have ev : (x : Int) + (bz : Int) = (v : Int) := by omega
            have HV := Lib.hid hv
            by_cases hle : y ≤ n
            · have hlz : (y : Int) ≤ (n : Int) := by omega
              have HC := Lib.hid (HSYM.out x v y dj wr (by omega) (by omega) hle HDj.out S3.out)
              clear S3 hv
              go_wp2_with (go_at_fn 40; (with_reducible refine HC.out.mono ?_); rintro e w1 ⟨rfl, hw⟩; have S4 := Lib.hid hw; clear hw)
              go_roundg (n + 1 - y)
              case measure => omega
              case rel =>
                refine ⟨y, y + 2 * bz, Sq.sym cf dj x v y, rfl, by go_num, by omega, by omega, hle, Nat.le_refl _, Lib.hid (by rw [Sq.sym_len]; exact HDj.out), S4, Lib.hid ?_⟩
                rw [← HEj.out, Sq.mrgs.eq_def cf bz n x y dj, if_pos ⟨by omega, hle⟩, HV.out]
            · have hlz : ¬ (y : Int) ≤ (n : Int) := by omega
              have HM := Lib.hid (show Sq.mrgs cf bz n 0 (2 * bz) dk = if v < n then Sq.sym cf dj x v n else dj by rw [← HEj.out, Sq.mrgs.eq_def cf bz n x y dj, if_neg (by omega), HV.out])
              by_cases hvn : v < n
              · have hvz : (v : Int) < (n : Int) := by omega
                have HC := Lib.hid (HSYM.out x v n dj wr (by omega) hvn (Nat.le_refl _) HDj.out S3.out)
                clear S3 hv
                go_wp2_with (go_at_fn 40; (with_reducible refine HC.out.mono ?_); rintro e w1 ⟨rfl, hw⟩; have S4 := Lib.hid hw; clear hw)
                go_roundg (n - 2 * bz)
                case measure => omega
                case rel =>
                  refine ⟨2 * bz, Sq.sym cf dj x v n, by go_num, by omega, Nat.le_refl _, by omega, Lib.hid (by rw [Sq.sym_len]; exact HDj.out), S4, Lib.hid ?_⟩
                  rw [← HE.out, Sq.mrgO.eq_def cf n bz dk, if_pos ⟨by omega, hlt⟩, HM.out, if_pos hvn]
              · have hvz : ¬ (v : Int) < (n : Int) := by omega
                clear hv
                go_wp2_with fail
                go_roundg (n - 2 * bz)
                case measure => omega
                case rel =>
                  refine ⟨2 * bz, dj, by go_num, by omega, Nat.le_refl _, by omega, HDj, S3, Lib.hid ?_⟩
                  rw [← HE.out, Sq.mrgO.eq_def cf n bz dk, if_pos ⟨by omega, hlt⟩, HM.out, if_neg hvn]
        · have hlz : ¬ (bz : Int) < (n : Int) := by omega
          go_wp2
          go_end0
          refine ⟨rfl, ?_⟩
          rw [← HE.out, Sq.mrgO.eq_def, if_neg (by omega)]
          exact S1.out
end
end Go.Proofs.YtcojoigbcfaajaaDoor
