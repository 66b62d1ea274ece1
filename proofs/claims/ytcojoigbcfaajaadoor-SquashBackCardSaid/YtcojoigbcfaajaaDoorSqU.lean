/- slices.SortStableFunc's parts: rotations. -/
import Derived.Test.YtcojoigbcfaajaaDoorSqT
namespace Go.Proofs.YtcojoigbcfaajaaDoor
open Go.Shelf Go.RowKit Go.Lib Go.Sort

section
variable {P : Program} {α : Type} [Inhabited α]
set_option maxHeartbeats 4000000 in
set_option maxRecDepth 1000000 in
theorem rot_wk (L : SqL P) (k : Nat) (zE : ∀ w, (Go.sizeOf 71).run P w = .ok k w) (enc : α → List Value) (g : Nat) (cb : Array Value) (blk off cap : Nat) (a m b : Nat) (d0 d : Array α) (w0 w : World)
    (R : RowK enc k w0 blk off d0) (hs : d0.size = d.size) (S : SWK enc k w0 blk off d w) (ha : a < m) (hm : m < b) (hb : b ≤ d.size) (hsz : d.size < 4611686018427387904) :
    Calls P 41 #[.slice (some ⟨blk, off, none⟩) d.size cap, .int .i64 a, .int .i64 m, .int .i64 b, .func (.func g) #[] cb] w fun e w' => e = .returned (.tuple #[]) ∧ SWK enc k w0 blk off (Sq.rot m (m - a) (b - m) d) w' := by
  have HS := Lib.hid (fun (x y n : Nat) (dk : Array α) W (S : SWK enc k w0 blk off dk W) (h : dk.size = d.size) (hx : x + n ≤ dk.size) (hy : y + n ≤ dk.size) => swr_w L k zE enc g cb blk off cap x y n d0 dk w0 W R (by omega) S hx hy (by omega))
  have mixed := L.mixed; have t0 := L.t0; have a0 := L.a0; have z0 := L.z0; have v0 := L.v0; have t3 := L.t3; have a3 := L.a3; have z3 := L.z3; have v3 := L.v3; have t4 := L.t4; have a4 := L.a4; have z4 := L.z4; have v4 := L.v4; have t22 := L.t22; have a22 := L.a22; have z22 := L.z22; have v22 := L.v22; have t25 := L.t25; have a25 := L.a25; have z25 := L.z25; have v25 := L.v25; have aE := L.aE
  have FG := L.fro
  have esw : ∀ args w, (callFunc 42 args).run P w = .ok (.enter 42 args) w := enters_of L.fsw (by kernel_rfl) rfl
  have S0 : Aside (SWK enc k w0 blk off d w) := S
  clear S L R
  go_enter FG, Tryd.ntmps41
  go_wp2
  go_loopg [10, 11] (b - a) (fun kx s10 s11 wr => ∃ (i j : Nat) (dk : Array α), s10 = .int .i64 i ∧ s11 = .int .i64 j ∧ 0 < i ∧ 0 < j ∧ a + i ≤ m ∧ m + j ≤ b ∧ i + j ≤ kx ∧ dk.size = d.size ∧ Aside (SWK enc k w0 blk off dk wr) ∧ Hid (Sq.rot m i j dk = Sq.rot m (m - a) (b - m) d))
  case atStart => exact ⟨m - a, b - m, d, by congr 1; omega, by congr 1; omega, by omega, by omega, by omega, by omega, by omega, rfl, S0, Lib.hid rfl⟩
  case round =>
    clear S0
    obtain ⟨i, j, dk, rfl, rfl, hi, hj, hai, hmj, hkx, hds, S1, HE⟩ := hrel
    rcases Nat.lt_trichotomy i j with hlt | rfl | hlt
    · have c1 : ((i : Int) != (j : Int)) = true := by rw [bne_iff_ne]; omega
      have c2 : ¬ (j : Int) < (i : Int) := by omega
      have e1 : (m : Int) - (i : Int) = ((m - i : Nat) : Int) := by omega
      have e2 : (m : Int) + (j : Int) - (i : Int) = ((m + j - i : Nat) : Int) := by omega
      have hc := HS.out (m - i) (m + j - i) i dk wr S1.out hds (by omega) (by omega)
      rw [hds] at hc
      have HC := Lib.hid hc
      clear hc
      have E1 := Lib.hid e1
      have E2 := Lib.hid e2
      clear e1 e2 S1
      go_wp2_with (go_at_fn 42; rw [E1.out, E2.out]; refine HC.out.mono ?_; rintro e w1 ⟨rfl, hw1⟩; have S2 : Aside _ := hw1; clear hw1)
      go_roundg (i + (j - i))
      case measure => omega
      case rel =>
        refine ⟨i, j - i, _, rfl, by congr 1; omega, hi, by omega, hai, by omega, Nat.le_refl _, by rw [Sq.swr_len]; exact hds, S2, Lib.hid ?_⟩
        rw [← HE.out, Sq.rot.eq_def m i j, if_neg (by omega), if_neg (by omega), if_neg (by omega)]
    · have c1 : ((i : Int) != (i : Int)) = false := by simp
      have e1 : (m : Int) - (i : Int) = ((m - i : Nat) : Int) := by omega
      have hc := HS.out (m - i) m i dk wr S1.out hds (by omega) (by omega)
      rw [hds] at hc
      have HC := Lib.hid hc
      clear hc
      have E1 := Lib.hid e1
      clear e1 S1
      go_wp2_with (go_at_fn 42; rw [E1.out]; refine HC.out.mono ?_; rintro e w1 ⟨rfl, hw1⟩; have S2 : Aside _ := hw1; clear hw1)
      go_end0
      refine ⟨rfl, ?_⟩
      rw [← HE.out, Sq.rot.eq_def m i i, if_neg (by omega), if_pos rfl]
      exact S2.out
    · have c1 : ((i : Int) != (j : Int)) = true := by rw [bne_iff_ne]; omega
      have c2 : (j : Int) < (i : Int) := by omega
      have e1 : (m : Int) - (i : Int) = ((m - i : Nat) : Int) := by omega
      have hc := HS.out (m - i) m j dk wr S1.out hds (by omega) (by omega)
      rw [hds] at hc
      have HC := Lib.hid hc
      clear hc
      have E1 := Lib.hid e1
      clear e1 S1
      go_wp2_with (go_at_fn 42; rw [E1.out]; refine HC.out.mono ?_; rintro e w1 ⟨rfl, hw1⟩; have S2 : Aside _ := hw1; clear hw1)
      go_roundg (i - j + j)
      case measure => omega
      case rel =>
        refine ⟨i - j, j, _, by congr 1; omega, rfl, by omega, hj, by omega, hmj, Nat.le_refl _, by rw [Sq.swr_len]; exact hds, S2, Lib.hid ?_⟩
        rw [← HE.out, Sq.rot.eq_def m i j, if_neg (by omega), if_neg (by omega), if_pos hlt]
end
end Go.Proofs.YtcojoigbcfaajaaDoor
