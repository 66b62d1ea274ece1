/- slices.SortStableFunc's parts: the insertion sort, off the shelf; exchanges of stretches; rotations. -/
import Derived.Test.YtcojoigbcfaajaaDoorSqS
import Derived.WalkKit
import Derived.Outline
import Derived.Lib.Hide
import Derived.Sort.WalkB2
import Derived.Sort.WalkB12
import Derived.Deep.LoopGhost
namespace Go.Proofs.YtcojoigbcfaajaaDoor
open Go.Shelf Go.RowKit Go.Lib Go.Sort

def sqRen : Go.Shelf.Ren := ⟨fun | 20 => 39 | n => n, fun | 0 => 0 | 3 => 3 | 4 => 4 | 22 => 69 | 24 => 71 | 25 => 74 | n => n, fun n => n⟩
theorem sqL20 : SlLaysF0.n20 Tryd.prog sqRen where
  mixed := by kernel_rfl
  f20 := ⟨"slices.insertionSortCmpFunc[chancery/squash.bundle]", by decide +kernel, by kernel_rfl⟩
  t0 := by kernel_rfl
  a0 := fun _ => by kernel_rfl
  z0 := fun _ => by kernel_rfl
  v0 := fun _ => by kernel_rfl
  t3 := by kernel_rfl
  a3 := fun _ => by kernel_rfl
  z3 := fun _ => by kernel_rfl
  v3 := fun _ => by kernel_rfl
  t4 := by kernel_rfl
  a4 := fun _ => by kernel_rfl
  z4 := fun _ => by kernel_rfl
  v4 := fun _ => by kernel_rfl
  t22 := by kernel_rfl
  a22 := fun _ => by kernel_rfl
  z22 := fun _ => by kernel_rfl
  v22 := fun _ => by kernel_rfl
  t25 := by kernel_rfl
  a25 := fun _ => by kernel_rfl
  z25 := fun _ => by kernel_rfl
  v25 := fun _ => by kernel_rfl
/-- What the walks ask of the program. -/
structure SqL (P : Program) : Prop where
  mixed : P.follows .mixedOrders = true
  fsw : P.funcs[42]? = some Tryd.f42
  fro : P.funcs[41]? = some Tryd.f41
  fsy : P.funcs[40]? = some Tryd.f40
  fst : P.funcs[36]? = some Tryd.f36
  ffn : P.funcs[24]? = some Tryd.f24
  t0 : P.underlying 0 = some (TypeDesc.tuple #[])
  a0 : ∀ w, (isAgg 0).run P w = .ok false w
  z0 : ∀ w, (Go.sizeOf 0).run P w = .ok 1 w
  v0 : ∀ w, (zeroValue 0).run P w = .ok (Value.tuple #[]) w
  t3 : P.underlying 3 = some (TypeDesc.int IntKind.i64)
  a3 : ∀ w, (isAgg 3).run P w = .ok false w
  z3 : ∀ w, (Go.sizeOf 3).run P w = .ok 1 w
  v3 : ∀ w, (zeroValue 3).run P w = .ok (Value.int IntKind.i64 0) w
  t4 : P.underlying 4 = some (TypeDesc.bool)
  a4 : ∀ w, (isAgg 4).run P w = .ok false w
  z4 : ∀ w, (Go.sizeOf 4).run P w = .ok 1 w
  v4 : ∀ w, (zeroValue 4).run P w = .ok (Value.bool false) w
  t22 : P.underlying 69 = some (TypeDesc.slice 71)
  a22 : ∀ w, (isAgg 69).run P w = .ok false w
  z22 : ∀ w, (Go.sizeOf 69).run P w = .ok 1 w
  v22 : ∀ w, (zeroValue 69).run P w = .ok (Value.slice none 0 0) w
  t25 : P.underlying 74 = some (TypeDesc.func #[71, 71] #[3] false)
  a25 : ∀ w, (isAgg 74).run P w = .ok false w
  z25 : ∀ w, (Go.sizeOf 74).run P w = .ok 1 w
  v25 : ∀ w, (zeroValue 74).run P w = .ok (Value.nilFunc) w
  t30 : P.underlying 30 = some (TypeDesc.int IntKind.u64)
  a30 : ∀ w, (isAgg 30).run P w = .ok false w
  z30 : ∀ w, (Go.sizeOf 30).run P w = .ok 1 w
  v30 : ∀ w, (zeroValue 30).run P w = .ok (Value.int IntKind.u64 0) w
  aE : ∀ w, (isAgg 71).run P w = .ok true w
  zE : ∀ w, (Go.sizeOf 71).run P w = .ok 2 w
theorem sqL : SqL Tryd.prog := by constructor <;> first | kernel_rfl | (intro _; kernel_rfl)

section
variable {P : Program} {α : Type} [Inhabited α]
set_option maxHeartbeats 4000000 in
set_option maxRecDepth 1000000 in
theorem swr_w (L : SqL P) (k : Nat) (zE : ∀ w, (Go.sizeOf 71).run P w = .ok k w) (enc : α → List Value) (g : Nat) (cb : Array Value) (blk off cap : Nat) (a b n : Nat) (d0 d : Array α) (w0 w : World)
    (R : RowK enc k w0 blk off d0) (hs : d0.size = d.size) (S : SWK enc k w0 blk off d w) (ha : a + n ≤ d.size) (hb : b + n ≤ d.size) (hsz : d.size < 4611686018427387904) :
    Calls P 42 #[.slice (some ⟨blk, off, none⟩) d.size cap, .int .i64 a, .int .i64 b, .int .i64 n, .func (.func g) #[] cb] w fun e w' => e = .returned (.tuple #[]) ∧ SWK enc k w0 blk off (Sq.swr n a b d) w' := by
  have mixed := L.mixed; have t0 := L.t0; have a0 := L.a0; have z0 := L.z0; have v0 := L.v0; have t3 := L.t3; have a3 := L.a3; have z3 := L.z3; have v3 := L.v3; have t4 := L.t4; have a4 := L.a4; have z4 := L.z4; have v4 := L.v4; have t22 := L.t22; have a22 := L.a22; have z22 := L.z22; have v22 := L.v22; have t25 := L.t25; have a25 := L.a25; have z25 := L.z25; have v25 := L.v25; have aE := L.aE
  have FG := L.fsw
  have S0 : Aside (SWK enc k w0 blk off d w) := S
  clear S L
  go_enter FG, Tryd.ntmps42
  go_wp2
  go_loopg [10] n (fun kx s10 wr => ∃ (i : Nat) (dk : Array α), s10 = .int .i64 i ∧ i ≤ n ∧ n - i ≤ kx ∧ dk.size = d.size ∧ Aside (SWK enc k w0 blk off dk wr) ∧ Hid (Sq.swr (n - i) (a + i) (b + i) dk = Sq.swr n a b d))
  case atStart => exact ⟨0, d, by go_num, by omega, by omega, rfl, S0, Lib.hid rfl⟩
  case round =>
    clear S0
    obtain ⟨i, dk, rfl, hin, hkx, hds, S1, HE⟩ := hrel
    by_cases hlt : i < n
    · have hltz : (i : Int) < (n : Int) := by omega
      have e1 : ((a : Int) + (i : Int)).toNat = a + i := by omega
      have p1 : (0 : Int) ≤ (a : Int) + (i : Int) := by omega
      have b1 : (a : Int) + (i : Int) < (d.size : Int) := by omega
      have e2 : ((b : Int) + (i : Int)).toNat = b + i := by omega
      have p2 : (0 : Int) ≤ (b : Int) + (i : Int) := by omega
      have b2 : (b : Int) + (i : Int) < (d.size : Int) := by omega
      have r1 : IntKind.i64.wrap ((a : Int) + (i : Int)) = (a : Int) + (i : Int) := by rw [IntKind.wrap_i64]; omega
      have r2 : IntKind.i64.wrap ((b : Int) + (i : Int)) = (b : Int) + (i : Int) := by rw [IntKind.wrap_i64]; omega
      have S2 : Aside (SWK enc k w0 blk off (swp dk (a + i) (b + i)) ((wr.drew.setCells blk (off + (a + i) * k) (enc dk[b + i]!)).setCells blk (off + (b + i) * k) (enc dk[a + i]!))) := S1.out.swapped R (a + i) (b + i) (by omega) (by omega)
      have la := S1.out.ld1 R (by omega) P (a + i) (by omega)
      have lb := S1.out.ld1 R (by omega) P (b + i) (by omega)
      have sa := S1.out.st1 R (by omega) P (a + i) (by omega) dk[b + i]!
      have sb := S1.out.st2 R (by omega) P (a + i) (b + i) (by omega) (by omega) dk[b + i]! dk[a + i]!
      have na : (enc dk[a + i]!).length = k := R.hk _
      have nb : (enc dk[b + i]!).length = k := R.hk _
      generalize enc dk[a + i]! = cI at S2 la sb na
      generalize enc dk[b + i]! = cJ at S2 lb sa sb nb
      have HR : Hid (RowK enc k w0 blk off d0) := R
      clear S1 R
      go_wp2_with fail
      go_big_region_o
      clear la lb sa sb
      generalize (wr.drew.setCells blk (off + (a + i) * k) cJ).setCells blk (off + (b + i) * k) cI = w2 at S2 ⊢
      go_wp2
      go_roundg (n - (i + 1))
      case measure => omega
      case rel =>
        refine ⟨i + 1, swp dk (a + i) (b + i), by go_num, by omega, Nat.le_refl _, by rw [size_swp]; exact hds, S2, Lib.hid ?_⟩
        rw [← HE.out, show n - i = (n - (i + 1)) + 1 by omega, Sq.swr, Sq.sw_of (by omega) (by omega)]
        rfl
    · obtain rfl : i = n := by omega
      go_wp2
      go_end0
      refine ⟨rfl, ?_⟩
      have h := HE.out
      rw [Nat.sub_self, Sq.swr] at h
      rw [← h]
      exact S1.out
end
end Go.Proofs.YtcojoigbcfaajaaDoor
