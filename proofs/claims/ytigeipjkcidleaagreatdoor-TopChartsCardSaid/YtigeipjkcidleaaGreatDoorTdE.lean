/- The contract of mod. -/
import Derived.Test.YtigeipjkcidleaaGreatDoorRows
import Derived.WalkKit
import Derived.WalkLawsBesides
import Derived.Lib.Hide
import Derived.Handy
import Derived.Test.YtigeipjkcidleaaGreatDoorTdD
import Derived.Test.YtigeipjkcidleaaGreatDoorTdC
import Derived.Test.YtigeipjkcidleaaGreatDoorTdA
import Derived.Deep.Matrix
import Derived.Lib.SmallJoins
import Derived.ChangeSame
import Derived.ProofKit
import Derived.OpenShut
import Derived.Laws.Entries
namespace Go.Proofs.YtigeipjkcidleaaGreatDoor
open Go.RowKit

theorem ret_i64 {a b : Int} (h : a = b) : Ending.returned (.int .i64 a) = .returned (.int .i64 b) := by rw [h]
theorem tmod_bd (n m : Int) (h0 : 0 < m) : -m < n.tmod m ∧ n.tmod m < m := by
  have h1 := Int.tmod_lt_of_pos n h0
  have h2 := Int.lt_tmod_of_pos n h0
  omega
theorem mod_emod (n m : Int) (h0 : 0 < m) : (n.tmod m + m) % m = n % m := by
  rw [Int.add_emod_right]
  rw [Int.tmod_eq_emod]
  split
  · simp
  · rw [Int.natAbs_of_nonneg (by omega)]
    rw [Int.sub_emod_right, Int.emod_emod_of_dvd _ (Int.dvd_refl _)]

theorem mod_any (n m : Int) (w : World) (h0 : 0 < m) (h1 : m ≤ 4611686018427387904) (_hn : -9223372036854775808 ≤ n ∧ n ≤ 9223372036854775807) :
    Calls Tryz.prog 23 #[.int .i64 n, .int .i64 m] w fun e w' => e = .returned (.int .i64 (n % m)) ∧ w = w' := by
  have hb := tmod_bd n m h0
  have he := mod_emod n m h0
  have HE := Lib.hid he
  clear he
  have h2 : 0 ≤ n.tmod m + m := by omega
  have h3 : 1 ≤ m := by omega
  go_enter Tryz.func23, Tryz.ntmps23
  go_wp2
  go_ret
  exact ⟨ret_i64 HE.out, rfl⟩

end Go.Proofs.YtigeipjkcidleaaGreatDoor

namespace Go.Proofs.YtigeipjkcidleaaGreatDoor
open Go.RowKit

namespace Tc
/-- The number at a place of the argument. -/
def num (R : List (List Int)) (i k : Nat) : Nat := if h : i < R.length then (if h2 : k < R[i].length then (R[i][k] % 5001).toNat else 10 * i + k) else 10 * i + k
def nmb (R : List (List Int)) (i k : Nat) : Nat := if i < 5 ∧ k < 3 then num R i k else 0
theorem num_le (R : List (List Int)) (i k : Nat) (h : i < 5) (h2 : k < 3) : num R i k ≤ 5000 := by
  unfold num
  split
  · split
    · have := Int.emod_lt_of_pos (R[i][k]) (show (0 : Int) < 5001 by decide)
      omega
    · omega
  · omega
theorem nmb_le (R : List (List Int)) (i k : Nat) : nmb R i k ≤ 5000 := by
  unfold nmb
  split
  · exact num_le R i k (by omega) (by omega)
  · omega
end Tc
def ccOf (i k n : Nat) : CC := ⟨(i : Int) + 1, (k : Int) + 1, ⟨1, ⟨(Lib.decDigits n).toArray⟩, ⟨#[49]⟩, ⟨#[]⟩, false, 0, 0, 0, none, 0, 0⟩⟩
/-- The cells after m places. -/
def clm (N : Nat → Nat → Nat) : Nat → List CC
  | 0 => []
  | m + 1 => clm N m ++ (if 0 < N (m / 3) (m % 3) then [ccOf (m / 3) (m % 3) (N (m / 3) (m % 3))] else [])
theorem clm_len (N : Nat → Nat → Nat) : ∀ m, (clm N m).length ≤ m
  | 0 => Nat.le_refl _
  | m + 1 => by
    have := clm_len N m
    rw [clm, List.length_append]
    split <;> simp <;> omega
theorem clm_mem (N : Nat → Nat → Nat) (x : CC) : ∀ m, x ∈ clm N m ↔ ∃ i k, k < 3 ∧ 3 * i + k < m ∧ 0 < N i k ∧ x = ccOf i k (N i k)
  | 0 => by simp [clm]
  | m + 1 => by
    rw [clm, List.mem_append, clm_mem N x m]
    constructor
    · rintro (⟨i, k, a, b, c, d⟩ | h)
      · exact ⟨i, k, a, by omega, c, d⟩
      · split at h
        · rename_i hp
          rw [List.mem_singleton] at h
          exact ⟨m / 3, m % 3, Nat.mod_lt _ (by decide), by omega, hp, h⟩
        · simp at h
    · rintro ⟨i, k, a, b, c, d⟩
      by_cases e : 3 * i + k < m
      · exact .inl ⟨i, k, a, e, c, d⟩
      · right
        have e1 : m / 3 = i := by omega
        have e2 : m % 3 = k := by omega
        rw [e1, e2, if_pos c]
        simp [d]
theorem lk_none : ∀ (l : List CC) (r c : Int), (∀ x ∈ l, ¬ (x.row = r ∧ x.col = c)) → lk l r c = zVl
  | [], _, _, _ => rfl
  | x :: t, r, c, h => by
    rw [lk, if_neg (h x (by simp))]
    exact lk_none t r c fun y hy => h y (by simp [hy])
theorem lk_mem : ∀ (l : List CC) (r c : Int) (v : Vl), (∃ x ∈ l, x.row = r ∧ x.col = c) → (∀ x ∈ l, x.row = r → x.col = c → x.v = v) → lk l r c = v
  | [], _, _, _, h, _ => by simp at h
  | x :: t, r, c, v, h, hu => by
    rw [lk]
    split
    · rename_i hm
      exact hu x (by simp) hm.1 hm.2
    · rename_i hm
      obtain ⟨y, hy, h1⟩ := h
      rcases List.mem_cons.1 hy with rfl | hy
      · exact absurd h1 hm
      · exact lk_mem t r c v ⟨y, hy, h1⟩ fun z hz => hu z (by simp [hz])
theorem lk_col0 (N : Nat → Nat → Nat) (m : Nat) (r : Int) : lk (clm N m) r 0 = zVl := lk_none _ _ _ fun x hx => by
  obtain ⟨i, k, -, -, -, rfl⟩ := (clm_mem N x m).1 hx
  intro h
  have := h.2
  simp only [ccOf] at this
  omega
theorem lk_at (N : Nat → Nat → Nat) (i k : Nat) (hi : i < 5) (hk : k < 3) : lk (clm N 15) ((i + 1 : Nat) : Int) ((k + 1 : Nat) : Int) = if 0 < N i k then (ccOf i k (N i k)).v else zVl := by
  split
  · rename_i hp
    refine lk_mem _ _ _ _ ⟨ccOf i k (N i k), (clm_mem N _ 15).2 ⟨i, k, hk, by omega, hp, rfl⟩, by simp [ccOf]⟩ fun x hx h1 h2 => ?_
    obtain ⟨i', k', a, b, c, rfl⟩ := (clm_mem N x 15).1 hx
    simp only [ccOf] at h1 h2
    have e1 : i' = i := by omega
    have e2 : k' = k := by omega
    rw [e1, e2]
  · rename_i hp
    refine lk_none _ _ _ fun x hx h => ?_
    obtain ⟨i', k', a, b, c, rfl⟩ := (clm_mem N x 15).1 hx
    simp only [ccOf] at h
    have e1 : i' = i := by omega
    have e2 : k' = k := by omega
    rw [e1, e2] at c
    exact hp c
/-- What a chart reads of the sheet. -/
theorem thou_at (N : Nat → Nat → Nat) (hN : ∀ i k, N i k ≤ 5000) (i k : Nat) (hi : i < 5) (hk : k < 3) (w : World) (htab : Lib.TabIs Tryz.prog w "internal/strconv.uint64pow10" .u64 Lib.pow10Tab) :
    Calls Tryz.prog 40 #[(lk (clm N 15) ((i + 1 : Nat) : Int) ((k + 1 : Nat) : Int)).v] w fun e w' => e = .returned (.tuple #[.int .i64 ((1000 * N i k : Nat) : Int), .bool true]) ∧ Below w.heap.size w w' := by
  rw [lk_at N i k hi hk]
  have hb := hN i k
  generalize N i k = n at *
  split
  · exact thou_any ⟨(Lib.decDigits n).toArray⟩ ⟨#[49]⟩ ⟨#[]⟩ false 0 0 0 none 0 0 n 1 (1000 * n) w (qk_whole n (by omega)) (by omega) (by omega) (by omega) htab
  · have e : n = 0 := by omega
    rw [e]
    exact thou_no zVl w (by decide)
theorem two_thou (w : World) (htab : Lib.TabIs Tryz.prog w "internal/strconv.uint64pow10" .u64 Lib.pow10Tab) :
    Calls Tryz.prog 40 #[(⟨1, ⟨#[51]⟩, ⟨#[50]⟩, ⟨#[]⟩, false, 0, 0, 0, none, 0, 0⟩ : Vl).v] w fun e w' => e = .returned (.tuple #[.int .i64 ((1500 : Nat) : Int), .bool true]) ∧ Below w.heap.size w w' :=
  thou_any _ _ _ _ _ _ _ _ _ _ 3 2 1500 w (Nt.qk_small 3 2 39 (by decide) (by decide) (by decide) (by decide)) (by decide) (by decide) (by decide) htab
set_option maxHeartbeats 1000000 in
theorem mwithin_any (x low high : Int) (w : World) (_hx : -9223372036854775808 ≤ x ∧ x ≤ 9223372036854775807) (h0 : 0 ≤ low) (h1 : low ≤ high) (h2 : high ≤ 1000000) :
    Calls Tryz.prog 14 #[.int .i64 x, .int .i64 low, .int .i64 high] w fun e w' => e = .returned (.int .i64 (low + x % (high - low + 1))) ∧ w = w' := by
  have hm1 : 0 < high - low + 1 := by omega
  have hb := tmod_bd x (high - low + 1) hm1
  have HE := Lib.hid (show x.tmod (high - low + 1) % (high - low + 1) = x % (high - low + 1) by rw [← mod_emod x _ hm1, Int.add_emod_right])
  have h3 : 0 ≤ x.tmod (high - low + 1) + (high - low + 1) := by omega
  have h4 : 1 ≤ high - low + 1 := by omega
  have h5 : x.tmod (high - low + 1) + (high - low + 1) ≤ 3000000 := by omega
  have h6 : 0 ≤ x.tmod (high - low + 1) % (high - low + 1) := Int.emod_nonneg _ (by omega)
  have h7 : x.tmod (high - low + 1) % (high - low + 1) < high - low + 1 := Int.emod_lt_of_pos _ hm1
  go_enter Tryz.func14, Tryz.ntmps14
  go_wp2
  go_ret
  exact ⟨ret_i64 (by rw [HE.out]), rfl⟩
end Go.Proofs.YtigeipjkcidleaaGreatDoor

namespace Go.Proofs.YtigeipjkcidleaaGreatDoor
open Go.RowKit

/-- The array after m places. -/
def arrN (N : Nat → Nat → Nat) (m x : Nat) : Nat := if 3 * (x % 5) + x / 5 < m then N (x % 5) (x / 5) else 0
def arrC (N : Nat → Nat → Nat) (m : Nat) : Array Value := ((List.range 15).map fun x => Value.int .i64 (arrN N m x : Int)).toArray
theorem arrC_size (N : Nat → Nat → Nat) (m : Nat) : (arrC N m).size = 15 := by simp [arrC]
theorem arrC_get (N : Nat → Nat → Nat) (m x : Nat) (h : x < 15) : (arrC N m)[x]? = some (.int .i64 (arrN N m x : Int)) := by
  simp [arrC, h]
theorem arrC_zero (N : Nat → Nat → Nat) : arrC N 0 = #[.int .i64 0, .int .i64 0, .int .i64 0, .int .i64 0, .int .i64 0, .int .i64 0, .int .i64 0, .int .i64 0, .int .i64 0, .int .i64 0, .int .i64 0, .int .i64 0, .int .i64 0, .int .i64 0, .int .i64 0] := by
  simp [arrC, arrN, List.range_succ]
theorem arrC_set (N : Nat → Nat → Nat) (i k : Nat) (hi : i < 5) (hk : k < 3) : (arrC N (3 * i + k)).setIfInBounds (k * 5 + i) (.int .i64 (N i k : Int)) = arrC N (3 * i + k + 1) := by
  unfold arrC
  rw [List.setIfInBounds_toArray]
  congr 1
  apply List.ext_getElem
  · simp
  · intro x h1 h2
    have hx : x < 15 := by simpa using h2
    rw [List.getElem_set]
    simp only [List.getElem_map, List.getElem_range]
    by_cases e : k * 5 + i = x
    · rw [if_pos e]
      unfold arrN
      rw [if_pos (by omega), show x % 5 = i by omega, show x / 5 = k by omega]
    · rw [if_neg e]
      unfold arrN
      by_cases e2 : 3 * (x % 5) + x / 5 < 3 * i + k
      · rw [if_pos e2, if_pos (by omega)]
      · rw [if_neg e2, if_neg (by omega)]
theorem arrN_full (N : Nat → Nat → Nat) (i k : Nat) (hi : i < 5) (hk : k < 3) : arrN N 15 (k * 5 + i) = N i k := by
  unfold arrN
  rw [if_pos (by omega), show (k * 5 + i) % 5 = i by omega, show (k * 5 + i) / 5 = k by omega]
theorem cc_len (x : CC) : (ccC x).length = 11 ∧ ∀ u ∈ ccC x, u.oneCell' = true := ⟨rfl, by simp [ccC, Vl.cs, Value.oneCell']⟩
theorem cc_info : (Tryz.prog.info? 45).map (fun i => (i.zero, i.size, i.bytes)) = some (some (.agg #[.int .i64 0, .int .i64 0, .int .i64 0, .string ⟨#[]⟩, .string ⟨#[]⟩, .string ⟨#[]⟩, .bool false, .int .i64 0, .int .i64 0, .int .i64 0, .slice none 0 0]), 11, 128) := by kernel_rfl
/-- The sheet while it is made: its array behind it. -/
structure Sh (w : World) (g : Nat) (N : Nat → Nat → Nat) (m ma : Nat) (v : Value) (W : World) : Prop where
  loc : Loc w [(g + 1, 58, arrC N ma), (g, 48, #[.int .i64 0, .string ⟨#[]⟩, .int .i64 6, .int .i64 4, v])] W
  own : RowOf 45 11 ccC W (g + 2) v (clm N m)
  sz : g + 2 ≤ W.heap.size
section
variable {w W W' : World} {g : Nat} {N : Nat → Nat → Nat} {m m' ma i k : Nat} {v v' : Value}
theorem Sh.later (h : Sh w g N m ma v W) (hb : Below W.heap.size W W') : Sh w g N m ma v W' := ⟨h.loc.step hb, h.own.later hb, Nat.le_trans h.sz hb.size⟩
theorem Sh.drew (h : Sh w g N m ma v W) : Sh w g N m ma v W.drew := ⟨h.loc.drew, h.own.drew, h.sz⟩
theorem Sh.drewN (h : Sh w g N m ma v W) (n : Nat) : Sh w g N m ma v (W.drewN n) := ⟨h.loc.drewN n, h.own.drewN n, h.sz⟩
theorem Sh.arr (h : Sh w g N m ma v W) : Blk W (g + 1) 58 (arrC N ma) := h.loc.blk (List.mem_cons_self ..)
theorem Sh.sheet (h : Sh w g N m ma v W) : Blk W g 48 #[.int .i64 0, .string ⟨#[]⟩, .int .i64 6, .int .i64 4, v] := h.loc.blk (List.mem_cons_of_mem _ (List.mem_cons_self ..))
/-- A number is stored. -/
theorem Sh.put (h : Sh w g N m (3 * i + k) v W) (hi : i < 5) (hk : k < 3) : Sh w g N m (3 * i + k + 1) v (W.setCell ⟨g + 1, k * 5 + i, none⟩ (.int .i64 (N i k : Int))) := by
  refine ⟨?_, h.own.far (fun q hq => by have := (RowOf.lt h.own q hq).1; dsimp only; omega) _, by simpa [World.setCell] using h.sz⟩
  have := h.loc.set1 (i := k * 5 + i) (fun x hx => by rw [List.mem_singleton.1 hx]; dsimp only; omega) (.int .i64 (N i k : Int))
  rw [arrC_set N i k hi hk] at this
  exact this
/-- A cell is appended and its row stored. -/
theorem Sh.app (h : Sh w g N m ma v W) (hb : Below (g + 2) W W') (ho : RowOf 45 11 ccC W' (g + 2) v' (clm N m')) : Sh w g N m' ma v' (W'.setCell ⟨g, 4, none⟩ v') := by
  have hg : w.heap.size ≤ g := (h.loc.2 _ (List.mem_cons_of_mem _ (List.mem_cons_self ..))).1
  have h1 := h.loc.stepB hb (by omega) (fun x hx => by
    simp only [List.mem_cons, List.not_mem_nil, or_false] at hx
    rcases hx with rfl | rfl <;> (dsimp only; omega))
  have h2 := (h1.perm (L' := [(g, 48, #[.int .i64 0, .string ⟨#[]⟩, .int .i64 6, .int .i64 4, v]), (g + 1, 58, arrC N ma)]) (by simp)).set1 (i := 4) (fun x hx => by rw [List.mem_singleton.1 hx]; dsimp only; omega) v'
  refine ⟨?_, ho.far (fun q hq => by have := (RowOf.lt ho q hq).1; dsimp only; omega) _, by have := hb.size; have := h.sz; simp [World.setCell]; omega⟩
  have h3 : Loc w [(g, 48, #[.int .i64 0, .string ⟨#[]⟩, .int .i64 6, .int .i64 4, v']), (g + 1, 58, arrC N ma)] (W'.setCell ⟨g, 4, none⟩ v') := h2
  exact h3.perm (by simp)
theorem Sh.shape (h : Sh w g N m ma v W) : ∃ A n c, v = .slice A n c := by
  rcases h.own.2 with ⟨rfl, -⟩ | ⟨g', cap, cur, rfl, -⟩
  · exact ⟨none, 0, 0, rfl⟩
  · exact ⟨_, _, _, rfl⟩
end
theorem clm_yes (N : Nat → Nat → Nat) (i k : Nat) (hk : k < 3) (h : 0 < N i k) : clm N (3 * i + k + 1) = clm N (3 * i + k) ++ [ccOf i k (N i k)] := by
  rw [clm, show (3 * i + k) / 3 = i by omega, show (3 * i + k) % 3 = k by omega, if_pos h]
theorem clm_no (N : Nat → Nat → Nat) (i k : Nat) (hk : k < 3) (h : ¬ 0 < N i k) : clm N (3 * i + k + 1) = clm N (3 * i + k) := by
  rw [clm, show (3 * i + k) / 3 = i by omega, show (3 * i + k) % 3 = k by omega, if_neg h, List.append_nil]
end Go.Proofs.YtigeipjkcidleaaGreatDoor

namespace Go.Proofs.YtigeipjkcidleaaGreatDoor
open Go.RowKit

def fTh (N : Nat → Nat → Nat) (i k : Nat) : Nat := 1000 * N (i - 1) (k - 1)
/-- The series of the law's chart. -/
def serN (N : Nat → Nat → Nat) (Wd : Nat) : List (List Int) := (serL (fTh N) 6 Wd).map fun l => l.map fun (x : Nat) => (x : Int)
theorem serN_len (N : Nat → Nat → Nat) (Wd : Nat) : (serN N Wd).length = Wd - 1 := by simp [serN, serL]
theorem serN_at (N : Nat → Nat → Nat) (Wd j : Nat) (hj : j < (serN N Wd).length) : (serN N Wd)[j] = (List.range 5).map fun i => ((1000 * N i j : Nat) : Int) := by
  simp [serN, serL, fTh]
theorem serN_len2 (N : Nat → Nat → Nat) (Wd j : Nat) (hj : j < (serN N Wd).length) : (serN N Wd)[j].length = 5 := by
  rw [serN_at]
  simp
theorem serN_get (N : Nat → Nat → Nat) (Wd j i : Nat) (hj : j < (serN N Wd).length) (hi : i < (serN N Wd)[j].length) : (serN N Wd)[j][i] = ((1000 * N i j : Nat) : Int) := by
  simp only [serN_at, List.getElem_map, List.getElem_range]
theorem serN_rg {N : Nat → Nat → Nat} (hN : ∀ i k, N i k ≤ 5000) (Wd : Nat) : ∀ l ∈ serN N Wd, ∀ n ∈ l, 0 ≤ n ∧ n ≤ 5000000 := by
  intro l hl n hn
  obtain ⟨j, hj, rfl⟩ := List.mem_iff_getElem.1 hl
  obtain ⟨i, hi, rfl⟩ := List.mem_iff_getElem.1 hn
  rw [serN_get]
  have := hN i j
  omega
theorem serN_ln (N : Nat → Nat → Nat) (Wd : Nat) : ∀ l ∈ serN N Wd, l.length = 5 := by
  intro l hl
  obtain ⟨j, hj, rfl⟩ := List.mem_iff_getElem.1 hl
  exact serN_len2 N Wd j hj
theorem serN_ok {N : Nat → Nat → Nat} (hN : ∀ i k, N i k ≤ 5000) : ChOk 0 5 (serN N 4) 5000000 :=
  ⟨.inl rfl, by decide, by decide, by rw [serN_len]; decide, by rw [serN_len]; decide, fun h => (by cases h), serN_ln N 4, serN_rg hN 4, by decide⟩
theorem serN_ok3 {N : Nat → Nat → Nat} (hN : ∀ i k, N i k ≤ 5000) : ChOk 3 5 (serN N 2) 5000000 :=
  ⟨.inr rfl, by decide, by decide, by rw [serN_len]; decide, by rw [serN_len]; decide, fun _ => by rw [serN_len], serN_ln N 2, serN_rg hN 2, by decide⟩
/-- The one series of the round chart. -/
def ser1 (N : Nat → Nat → Nat) : List Int := (List.range 5).map fun i => ((1000 * N i 0 : Nat) : Int)
theorem serN_one (N : Nat → Nat → Nat) : serN N 2 = [ser1 N] := by simp [serN, serL, fTh, ser1]
theorem ser1_len (N : Nat → Nat → Nat) : (ser1 N).length = 5 := by simp [ser1]
theorem ser1_sum (N : Nat → Nat → Nat) : Tc.sm (ser1 N) = ((1000 * (N 0 0 + N 1 0 + N 2 0 + N 3 0 + N 4 0) : Nat) : Int) := by
  simp only [ser1, List.range_succ, List.range_zero, List.nil_append, List.map_append, List.map_cons, List.map_nil, Tc.sm_app, Tc.sm]
  omega
theorem of_sheet {N : Nat → Nat → Nat} (hN : ∀ i k, N i k ≤ 5000) {w W : World} {G : Nat} {v : Value} (hs : Sh w G N 15 15 v W) (he : VEnv W) (kind : Int) (Wd : Nat) (hk : (kind = 0 ∧ Wd = 4) ∨ (kind = 3 ∧ Wd = 2)) :
    Calls Tryz.prog 12 #[.agg #[.int .i64 0, .string ⟨#[]⟩, .int .i64 6, .int .i64 4, v], .agg #[.int .i64 0, .int .i64 0, .int .i64 ((6 : Nat) : Int), .int .i64 (Wd : Int)], .int .i64 kind] W (OfRet kind (fTh N) 6 Wd W) := by
  have hr := hs.own.reads fun x => (cc_len x).1
  obtain ⟨A, c, rfl⟩ := hr.shape
  have hl := clm_len N 15
  refine of_any 0 ⟨#[]⟩ 6 4 A _ c (clm N 15) kind 6 Wd (fTh N) W he hr (by omega) (by omega) (by omega) (by decide) (by decide) (by omega) (by omega) (by decide) (by decide) (by omega) (by decide)
    (fun i _ _ => lk_col0 N 15 i) (fun i k => by unfold fTh; have := hN (i - 1) (k - 1); omega) (fun i k h1 h2 h3 h4 W' hW => ?_)
  have := thou_at N hN (i - 1) (k - 1) (by omega) (by omega) W' (he.below hW).pw
  rw [show i - 1 + 1 = i by omega, show k - 1 + 1 = k by omega] at this
  exact this
/-- A bar of the law's chart. -/
theorem bar_at {N : Nat → Nat → Nat} {P : MkP} {l : List Bar} (h : BarsAt P (serN N 4) l 5) : l.length = 15 ∧ ∀ n (hn : n < l.length), ∃ s u : Nat, ∃ x wd : Int, s < 3 ∧ u < 5 ∧ l[n] = barOf P s u x wd ((1000 * N u s : Nat) : Int) := by
  obtain ⟨h1, h2⟩ := h
  rw [serN_len] at h1
  refine ⟨h1, fun n hn => ?_⟩
  have hj : n % 3 < (serN N 4).length := by rw [serN_len]; omega
  have hl : (serN N 4)[n % 3].length = 5 := serN_len2 N 4 _ hj
  have e : n / 3 * (serN N 4).length + n % 3 = n := by rw [serN_len]; omega
  obtain ⟨x, wd, hb⟩ := h2 (n / 3) (by omega) (n % 3) hj (by omega) (by omega)
  refine ⟨n % 3, n / 3, x, wd, by omega, by omega, ?_⟩
  simp only [e, serN_get] at hb
  exact hb
theorem bar_h (P : MkP) (s u x wd y : Int) : (barOf P s u x wd y).h = Tc.plc y P.hi P.hgt := by
  unfold barOf
  dsimp only
  omega
/-- The law's charts in memory. -/
structure Dr (w : World) (G : Nat) (N : Nat → Nat → Nat) (v : Value) (c : Nat) (NA : Option Addr) (nc : Nat) (SA : Option Addr) (sc : Nat) (bv : Value) (bl : List Bar) (W : World) : Prop where
  sh : Sh w G N 15 15 v W
  ch : Blk W c 51 #[.int .i64 0, .slice NA 5 nc, .slice SA 3 sc]
  rd : Rows2 W (.slice SA 3 sc) (serN N 4)
  br : Reads 6 barC W bv bl
section
variable {w W W' : World} {G : Nat} {N : Nat → Nat → Nat} {v : Value} {c : Nat} {NA : Option Addr} {nc : Nat} {SA : Option Addr} {sc : Nat} {bv : Value} {bl : List Bar}
theorem Dr.later (h : Dr w G N v c NA nc SA sc bv bl W) (hb : Below W.heap.size W W') : Dr w G N v c NA nc SA sc bv bl W' := ⟨h.sh.later hb, h.ch.later hb, h.rd.below hb, h.br.below hb⟩
theorem Dr.drewN (h : Dr w G N v c NA nc SA sc bv bl W) (n : Nat) : Dr w G N v c NA nc SA sc bv bl (W.drewN n) := ⟨h.sh.drewN n, h.ch.drewN n, h.rd.below (bdn (Below.refl _ _) n), h.br.drewN n⟩
/-- The cells that a place of the chart rests on. -/
theorem Dr.at (h : Dr w G N v c NA nc SA sc bv bl W) : ∃ b o, SA = some ⟨b, o, none⟩ ∧ ∀ s u, s < 3 → u < 5 → ∃ b2 o2 k2, W.cell? ⟨b, o + s, none⟩ = some (.slice (some ⟨b2, o2, none⟩) 5 k2) ∧ W.cell? ⟨b2, o2 + u, none⟩ = some (.int .i64 (1000 * (N u s : Int))) := by
  obtain ⟨b, o, e, _, hr⟩ := h.rd.get.2 (by decide)
  refine ⟨b, o, e, fun s u hs hu => ?_⟩
  have hj : s < (serN N 4).length := by rw [serN_len]; omega
  obtain ⟨B, m, k, c0, hrr⟩ := hr s hj
  obtain ⟨e1, hrr⟩ := hrr.one
  rw [serN_len2] at e1
  subst e1
  obtain ⟨b2, o2, rfl, _, hc⟩ := hrr (by decide)
  refine ⟨b2, o2, k, c0, ?_⟩
  have := hc u (by rw [serN_len2]; exact hu)
  rw [serN_get] at this
  rw [this]
  rfl
theorem Dr.arr (h : Dr w G N v c NA nc SA sc bv bl W) (s u : Nat) (hs : s < 3) (hu : u < 5) : W.cell? ⟨G + 1, s * 5 + u, none⟩ = some (.int .i64 (N u s : Int)) := by
  have := (h.sh.arr.cell (s * 5 + u)).trans (arrC_get N 15 (s * 5 + u) (by omega))
  rw [arrN_full N u s hu hs] at this
  exact this
theorem Dr.bar (h : Dr w G N v c NA nc SA sc bv bl W) : ∃ A k, bv = .slice A bl.length k ∧ (0 < bl.length → ∃ b o, A = some ⟨b, o, none⟩ ∧ ∀ n (hn : n < bl.length), (W.cell? ⟨b, o + n * 6, none⟩ = some (.int .i64 bl[n].s) ∧ W.cell? ⟨b, o + n * 6 + 1, none⟩ = some (.int .i64 bl[n].v) ∧ W.cell? ⟨b, o + n * 6 + 2, none⟩ = some (.int .i64 bl[n].x) ∧ W.cell? ⟨b, o + n * 6 + 3, none⟩ = some (.int .i64 bl[n].y) ∧ W.cell? ⟨b, o + n * 6 + 4, none⟩ = some (.int .i64 bl[n].w) ∧ W.cell? ⟨b, o + n * 6 + 5, none⟩ = some (.int .i64 bl[n].h))) := by
  obtain ⟨A, k, e, _, _, hr⟩ := h.br
  refine ⟨A, k, e, fun h0 => ?_⟩
  obtain ⟨b, o, e2, _, hc⟩ := hr h0
  exact ⟨b, o, e2, fun n hn => ⟨hc n hn 0 (by decide), hc n hn 1 (by decide), hc n hn 2 (by decide), hc n hn 3 (by decide), hc n hn 4 (by decide), hc n hn 5 (by decide)⟩⟩
theorem Dr.barf {P : MkP} {pb po m bk : Nat} (h : Dr w G N v c NA nc SA sc (.slice (some ⟨pb, po, none⟩) m bk) bl W) (hb : BarsAt P (serN N 4) bl 5) (n : Nat) (hn : n < 15) : ∃ (s u : Nat) (x y wd hh : Int), s < 3 ∧ u < 5 ∧ hh = Tc.plc ((1000 * N u s : Nat) : Int) P.hi P.hgt ∧ W.cell? ⟨pb, po + n * 6, none⟩ = some (.int .i64 (s : Int)) ∧ W.cell? ⟨pb, po + n * 6 + 1, none⟩ = some (.int .i64 (u : Int)) ∧ W.cell? ⟨pb, po + n * 6 + 2, none⟩ = some (.int .i64 x) ∧ W.cell? ⟨pb, po + n * 6 + 3, none⟩ = some (.int .i64 y) ∧ W.cell? ⟨pb, po + n * 6 + 4, none⟩ = some (.int .i64 wd) ∧ W.cell? ⟨pb, po + n * 6 + 5, none⟩ = some (.int .i64 hh) := by
  obtain ⟨hl, hf⟩ := bar_at hb
  obtain ⟨s, u, x, wd, hs, hu, e⟩ := hf n (by omega)
  obtain ⟨A, k, e1, hr⟩ := h.bar
  injection e1 with e1 e2 e3
  subst e1
  obtain ⟨b, o, e4, hc⟩ := hr (by omega)
  injection e4 with e4
  injection e4 with e4 e5
  subst e4 e5
  obtain ⟨c0, c1, c2, c3, c4, c5⟩ := hc n (by omega)
  rw [e] at c0 c1 c2 c3 c4 c5
  exact ⟨s, u, x, _, wd, _, hs, hu, bar_h P s u x wd _, c0, c1, c2, c3, c4, c5⟩
theorem Dr.atc {b o : Nat} (h : Dr w G N v c NA nc (some ⟨b, o, none⟩) sc bv bl W) (s u : Nat) (hs : s < 3) (hu : u < 5) : ∃ b2 o2 k2, W.cell? ⟨b, o + s, none⟩ = some (.slice (some ⟨b2, o2, none⟩) 5 k2) ∧ W.cell? ⟨b2, o2 + u, none⟩ = some (.int .i64 (1000 * (N u s : Int))) := by
  obtain ⟨b', o', e, hr⟩ := h.at
  injection e with e
  injection e with e4 e5
  subst e4 e5
  exact hr s u hs hu
end
/-- What chart.Sectors answers of it. -/
theorem secret_of {N : Nat → Nat → Nat} {w w' : World} {e : Ending} (h : SecRet (ser1 N) w e w') : ∃ (g c : Nat) (z : Int), e = .returned (.tuple #[.slice (some ⟨g, 0, none⟩) 5 c, .int .i64 0]) ∧ g < w'.heap.size ∧ w'.cell? ⟨g, 14, none⟩ = some (.int .i64 z) ∧ z = (if 0 < Tc.sm (ser1 N) then 3600 else 0) ∧ Below w.heap.size w w' := by
  obtain ⟨v, o, rfl, hl, hz, ho, hb⟩ := h
  rw [ser1_len] at hl hz
  have hr := ho.reads fun x => (sec_len x).1
  obtain ⟨g, c, rfl, _, hg⟩ := RowOf.form ho (by omega)
  obtain ⟨A', c', e1, -, -, hc⟩ := hr
  injection e1 with e1 e2 e3
  subst e1
  obtain ⟨b, q, e4, _, hc⟩ := hc (by omega)
  injection e4 with e4
  injection e4 with e4 e5
  subst e4 e5
  have h4 := hc 4 (by omega) 2 (by decide)
  refine ⟨g, c, (o[4]'(by omega)).2.2, by rw [hl], hg, ?_, ?_, hb⟩
  · rw [show (14 : Nat) = 0 + (4 * 3 + 2) from rfl]
    exact h4
  · rw [← secT_all]
    exact hz (by omega)
theorem sN_take_succ : ∀ (l : List Nat) (k : Nat) (h : k < l.length), Tc.sN (l.take (k + 1)) = Tc.sN (l.take k) + l[k]
  | x :: t, 0, _ => by simp [Tc.sN]
  | x :: t, k + 1, h => by
    have := sN_take_succ t k (by simpa using h)
    simp only [List.take_succ_cons, Tc.sN, List.getElem_cons_succ] at this ⊢
    omega
theorem sN_take_le : ∀ (l : List Nat) (k : Nat), Tc.sN (l.take k) ≤ Tc.sN l
  | [], k => by simp
  | x :: t, 0 => by simp [Tc.sN]
  | x :: t, k + 1 => by
    have := sN_take_le t k
    simp only [List.take_succ_cons, Tc.sN]
    omega
/-- What chart.Shares answers of it. -/
theorem shret_of {N : Nat → Nat → Nat} {w w' : World} {e : Ending} (h : ShRet (ser1 N) w e w') : ∃ (g c : Nat) (o : List Nat), e = .returned (.tuple #[.slice (some ⟨g, 0, none⟩) 5 c, .int .i64 0]) ∧ g < w'.heap.size ∧ o.length = 5 ∧ Tc.sN o = (if Tc.sm (ser1 N) = 0 then 0 else 1000) ∧ (∀ i (hi : i < o.length), w'.cell? ⟨g, i, none⟩ = some (.int .i64 (o[i] : Int))) ∧ Below w.heap.size w w' := by
  obtain ⟨g, c, o, rfl, hl, hs, ho, hb⟩ := h
  rw [ser1_len] at hl ho
  obtain ⟨e1, hc⟩ := Reads.one ho.rdI
  obtain ⟨b, q, e4, hg, hc⟩ := hc (by decide)
  injection e4 with e4
  injection e4 with e4 e5
  subst e4 e5
  refine ⟨g, c, o, by rw [ser1_len], hg, hl, hs, fun i hi => ?_, hb⟩
  have := hc i (by simpa using hi)
  simpa using this
/-- The sum of the first column. -/
def colS (N : Nat → Nat → Nat) : Nat → Nat
  | 0 => 0
  | i + 1 => colS N i + N i 0
theorem colS_le {N : Nat → Nat → Nat} (hN : ∀ i k, N i k ≤ 5000) : ∀ i, colS N i ≤ 5000 * i
  | 0 => Nat.le_refl _
  | i + 1 => by
    have := colS_le hN i
    have := hN i 0
    simp only [colS]
    omega
theorem colS_all (N : Nat → Nat → Nat) : Tc.sm (ser1 N) = ((1000 * colS N 5 : Nat) : Int) := by
  rw [ser1_sum]
  simp [colS]
end Go.Proofs.YtigeipjkcidleaaGreatDoor

namespace Go.Proofs.YtigeipjkcidleaaGreatDoor
open Go Go.Joins Go.ChangeShapes Go.WideShapes Go.RowKit Go.Deep

theorem rd_of {W : World} {A : Option Addr} {L C : Nat} {Z : List Int} (h1 : L ≤ C) (h2 : Z.length = C) (h3 : A = none → C = 0) (h4 : ∀ a', A = some a' → ∀ c, c < C → W.cell? (a'.add c) = some (.int .i64 (Z.getD c 0))) : RdI W (.slice A L C) (Z.take L) := by
  have hl : (Z.take L).length = L := by rw [List.length_take]; omega
  refine ⟨A, C, by rw [hl], by omega, h3, fun h0 => ?_⟩
  rw [hl] at h0
  cases A with
  | none =>
    have := h3 rfl
    omega
  | some a =>
    obtain ⟨b, o, sp⟩ := a
    have g0 := h4 _ rfl 0 (by omega)
    obtain rfl : sp = none := by simpa [Addr.add] using World.cell?_spot g0
    refine ⟨b, o, rfl, World.block_lt_of_cell? _ _ g0, fun i hi j hj => ?_⟩
    have hi' : i < L := by omega
    obtain rfl : j = 0 := by omega
    have := h4 _ rfl i (by omega)
    rw [Addr.add_lit] at this
    have hz : i < Z.length := by omega
    rw [Nat.mul_one, Nat.add_zero, this, List.getElem_take]
    simp [List.getD, hz]
section
variable {H : Type} {enc : TypeId × Value → H} {W : World} {base : Nat} {held : Bool}
set_option maxRecDepth 100000 in
theorem open_rows {r : Reach} {b0 : Nat} {v : Value} {d : DataW H} {p : List MemPlace} (hv : Value.okWide Tryz.prog W r b0 43 v) (h : DataW.Trod enc Tryz.prog W base (fun _ => true) held 43 v d p) :
    ∃ (A : Option Addr) (n c : Nat) (R : List (List Int)), v = .slice A n c ∧ Rows2 W (.slice A n c) R ∧ n ≤ 9223372036854775807 ∧ (∀ l ∈ R, l.length ≤ 9223372036854775807) ∧ ∀ l ∈ R, ∀ x ∈ l, -9223372036854775808 ≤ x ∧ x ≤ 9223372036854775807 := by
  obtain ⟨A0, n0, c0, rfl⟩ := okWide_slice Tryz.underlying43 hv
  obtain ⟨fuel, hf⟩ := h
  refine ⟨A0, n0, c0, ?_⟩
  rcases open_int_rows Tryz.underlying43 Tryz.underlying22 Tryz.underlying3 (by kernel_rfl) (by kernel_rfl) hf with ⟨hc, -⟩ | ⟨a, len, cap, A, L, C, Z, hc, -, hlc, hcm, -, hx⟩
  · have hc : [Value.slice A0 n0 c0] = [.slice none 0 0] := hc
    simp only [List.cons.injEq, and_true, Value.slice.injEq] at hc
    obtain ⟨rfl, rfl, rfl⟩ := hc
    exact ⟨[], rfl, ⟨[], rfl, Reads.nil _, fun i h1 => absurd h1 (by simp)⟩, by decide, by simp, by simp⟩
  · have hc : [Value.slice A0 n0 c0] = [.slice (some a) len cap] := hc
    simp only [List.cons.injEq, and_true, Value.slice.injEq] at hc
    obtain ⟨rfl, rfl, rfl⟩ := hc
    unfold maxLen at hcm hx
    refine ⟨(List.range n0).map fun r => (Z r).take (L r), rfl, ⟨(List.range n0).map fun r => (A r, L r, C r), by simp, ⟨some a, c0, by simp, by simpa using hlc, (fun h => by cases h), fun h0 => ?_⟩, fun i h1 h2 => ?_⟩, by omega, fun l hl => ?_, fun l hl x hx2 => ?_⟩
    · have h0' : 0 < n0 := by simpa using h0
      obtain ⟨b, o, sp⟩ := a
      have g0 := (hx 0 (by omega)).1
      obtain rfl : sp = none := by simpa [Addr.add] using World.cell?_spot g0
      refine ⟨b, o, rfl, World.block_lt_of_cell? _ _ g0, fun i hi j hj => ?_⟩
      obtain rfl : j = 0 := by omega
      have hi' : i < n0 := by simpa using hi
      have := (hx i (by omega)).1
      rw [Addr.add_lit] at this
      simp only [List.getElem_map, List.getElem_range]
      rw [Nat.mul_one, Nat.add_zero, this]
      rfl
    · have hi' : i < n0 := by simpa using h1
      obtain ⟨-, e1, -, e3, -, e5, e6⟩ := hx i (by omega)
      simp only [List.getElem_map, List.getElem_range]
      exact rd_of e1 e3 e5 fun a' ha => (e6 a' ha).2
    · obtain ⟨i, hi, rfl⟩ := List.mem_map.1 hl
      obtain ⟨-, e1, e2, e3, -⟩ := hx i (by have := List.mem_range.1 hi; omega)
      rw [List.length_take]
      omega
    · obtain ⟨i, hi, rfl⟩ := List.mem_map.1 hl
      obtain ⟨-, -, -, -, e4, -⟩ := hx i (by have := List.mem_range.1 hi; omega)
      exact bounds_i64 (e4 x (List.mem_of_mem_take hx2))
end
end Go.Proofs.YtigeipjkcidleaaGreatDoor
