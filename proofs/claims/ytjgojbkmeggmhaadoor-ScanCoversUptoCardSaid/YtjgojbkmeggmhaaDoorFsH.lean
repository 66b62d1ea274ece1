/- The contract of fscan's Scan. -/
import Derived.Test.YtjgojbkmeggmhaaDoorFsG
import Derived.Test.YtjgojbkmeggmhaaDoorRow
namespace Go.Proofs.YtjgojbkmeggmhaaDoor
open Go.RowKit

/-- A token's cells. -/
def tokC (t : Int × List UInt8) : List Value := [.int .i64 t.1, .string ⟨t.2.toArray⟩]
theorem tok_info : (Tryd.prog.info? 37).map (fun i => (i.zero, i.size, i.bytes)) = some (some (.agg #[.int .i64 0, .string ByteArray.empty]), 2, 24) := by kernel_rfl
theorem tok_len (x : Int × List UInt8) : (tokC x).length = 2 ∧ ∀ u ∈ tokC x, u.oneCell' = true := ⟨rfl, by simp [tokC, Value.oneCell']⟩
abbrev TOwn (w : World) (base : Nat) (v : Value) (l : List (Int × List UInt8)) : Prop := RowOf 37 2 tokC w base v l
abbrev Toks (w : World) (v : Value) (l : List (Int × List UInt8)) : Prop := Reads 2 tokC w v l

namespace Fs
/-- The tokens of a formula; where it ends badly. -/
def scan (l : List UInt8) : List (Int × List UInt8) × Option Nat := if Lib.hasPrefix l [61] = true then scanF (l.length + 1) (l.drop 1) 1 else ([], some 0)
end Fs
/-- What Scan answers. -/
def ScanRet (l : List UInt8) (w : World) (e : Ending) (w' : World) : Prop :=
  ((∃ i, (Fs.scan l).2 = some i ∧ e = .returned (.tuple #[.slice none 0 0, .int .i64 (i : Int), .int .i64 10])) ∨
   ((Fs.scan l).2 = none ∧ ∃ v, e = .returned (.tuple #[v, .int .i64 0, .int .i64 0]) ∧ Toks w' v (Fs.scan l).1)) ∧ Below w.heap.size w w'

theorem ex_mid (s : ByteArray) (k n : Nat) : s.extract k (k + n) = ⟨((s.data.toList.drop k).take n).toArray⟩ := by
  apply ByteArray.ext
  apply Array.ext'
  rw [Lib.extract_data]
  simp
theorem next_from (s : ByteArray) (k : Nat) (W : World) (he : Env W) (hs : s.size ≤ 4000000000) (hk : k < s.size) :
    Calls Tryd.prog 32 #[.string (s.extract k s.size)] W (NextRet (s.data.toList.drop k) W) := by
  have h := fs_next (s.extract k s.size) W he (by have := ex_size s k s.size; omega) (by rw [ByteArray.size_extract]; omega)
  rwa [ex_from] at h

set_option maxRecDepth 100000 in
set_option maxHeartbeats 4000000 in
theorem fs_scan (s : ByteArray) (w : World) (he : Env w) (hs : s.size ≤ 4000000000) :
    Calls Tryd.prog 12 #[.string s] w (ScanRet s.data.toList w) := by
  by_cases hp : Lib.hasPrefix s.data.toList [61] = true
  case neg =>
    have HP := Lib.hid (show ∀ W, Calls Tryd.prog 27 #[.string s, .string ⟨#[61]⟩] W fun e w' => e = .returned (.bool false) ∧ W = w' from fun W => by rw [← Bool.not_eq_true _ |>.mp hp]; exact pre_any s [61] W)
    have HF := Lib.hid (show Fs.scan s.data.toList = ([], some 0) from by rw [Fs.scan, if_neg hp])
    clear hp
    go_enter Tryd.func12, Tryd.ntmps12
    go_wp2_with (go_at_call 27; refine (HP.out _).mono ?_; rintro e w' ⟨rfl, rfl⟩)
    go_ret3
    exact ⟨.inl ⟨0, by rw [HF.out], rfl⟩, Below.refl _ _⟩
  case pos =>
    have HP := Lib.hid (show ∀ W, Calls Tryd.prog 27 #[.string s, .string ⟨#[61]⟩] W fun e w' => e = .returned (.bool true) ∧ W = w' from fun W => by rw [← hp]; exact pre_any s [61] W)
    have HF := Lib.hid (show Fs.scan s.data.toList = Fs.scanF (s.data.toList.length + 1) (s.data.toList.drop 1) 1 from by rw [Fs.scan, if_pos hp])
    have h1 : 1 ≤ s.size := by
      unfold Lib.hasPrefix at hp
      have := (List.isPrefixOf_iff_prefix.1 hp).length_le
      simpa using this
    have HN := Lib.hid fun k W (hb : Below w.heap.size w W) hk => next_from s k W (he.below hb) hs hk
    clear hp he
    go_enter Tryd.func12, Tryd.ntmps12
    go_wp2_with (go_at_call 27; refine (HP.out _).mono ?_; rintro e w' ⟨rfl, rfl⟩)
    go_loopw [5, 6] (fun v i wr => ∃ (k f : Nat) (pre : List (Int × List UInt8)), 1 ≤ k ∧ k ≤ s.size ∧ pre.length + 1 ≤ k ∧ s.size < f + k ∧ i = .int .i64 k ∧ TOwn wr w.heap.size v pre ∧ Below w.heap.size w wr ∧ Hid (Fs.scan s.data.toList = (pre ++ (Fs.scanF f (s.data.toList.drop k) k).1, (Fs.scanF f (s.data.toList.drop k) k).2))) (fun _ i _ => s.size - (intOf i).toNat)
    case atStart => exact ⟨1, s.size + 1, [], Nat.le_refl _, h1, Nat.le_refl _, by omega, rfl, RowOf.nil _ _, Below.refl _ _, Lib.hid (by rw [HF.out]; simp)⟩
    case round =>
      obtain ⟨k, f, pre, hk1, hk, hpl, hf, rfl, ho, hb, hq⟩ := hrel
      have HO := Lib.hid ho
      have HB := Lib.hid hb
      clear ho hb
      by_cases hlt : k < s.size
      · obtain ⟨f, rfl⟩ : ∃ g, f = g + 1 := ⟨f - 1, by omega⟩
        have hne : s.data.toList.drop k ≠ [] := by rw [drop_at s k hlt]; simp
        have hst := Fs.next_stays (s.data.toList.drop k) hne
        have hqq := hq.out
        rw [Fs.scanF, if_neg hne] at hqq
        have HNX := Lib.hid (HN.out k _ HB.out hlt)
        have hle : 0 < (Fs.next (s.data.toList.drop k)).2 → k + (Fs.next (s.data.toList.drop k)).2 ≤ s.size := fun h => by
          have := (hst h).1
          rw [List.length_drop, show s.data.toList.length = s.size by simp] at this
          omega
        rw [List.drop_drop] at hqq
        clear hst hne hq
        unfold NextRet at HNX
        obtain ⟨⟨q, n⟩, hX⟩ : ∃ X, X = Fs.next (s.data.toList.drop k) := ⟨_, rfl⟩
        rw [← hX] at HNX hqq hle
        dsimp only at HNX hqq hle
        by_cases hn : n = 0
        · rw [if_pos hn] at hqq
          subst hn
          have HQ := Lib.hid hqq
          clear hqq hX hle
          go_wp2_with (go_at_call 32; (with_reducible refine HNX.out.mono ?_); rintro e w' ⟨rfl, hbb⟩; have HB2 := Lib.hid (below_tr HB.out hbb); clear hbb)
          go_ret3
          exact ⟨.inl ⟨k, by rw [HQ.out], rfl⟩, HB2.out⟩
        · rw [if_neg hn] at hqq
          have HQ := Lib.hid hqq
          have hle2 := hle (by omega)
          have hz : ((n : Int) == 0) = false := by rw [beq_eq_false_iff_ne]; omega
          clear hqq hX hle
          go_wp2_with (first
            | (go_at_call 32; (with_reducible refine HNX.out.mono ?_); rintro e w2 ⟨rfl, hbb⟩; have HB2 := Lib.hid (below_tr HB.out hbb); have HO2 := Lib.hid (HO.out.later hbb); clear hbb)
            | (at_builtin; refine wp_row1 33 37 2 24 tokC _ Tryd.underlying33 tok_info rfl (by decide) tok_len rfl _ _ rfl w.heap.size _ pre rfl HO2.out (q, (s.data.toList.drop k).take n) _ ?_ rfl ?_ ?_ HB2.out.size ?_; (rw [ex_mid]; rfl); (omega); (unfold maxLen; omega); intro v3 w3 ho3 hb3 _))
          exact ⟨⟨k + n, f, pre ++ [(q, (s.data.toList.drop k).take n)], by omega, by omega, by simp; omega, by omega, by go_num, ho3, HB2.out.trans hb3, Lib.hid (by rw [HQ.out]; simp)⟩, by simp [intOf]; omega⟩
      · have HQ := Lib.hid (show Fs.scan s.data.toList = (pre, none) from by
          rw [hq.out, drop_all s k hlt]
          obtain ⟨f, rfl⟩ : ∃ g, f = g + 1 := ⟨f - 1, by omega⟩
          rw [Fs.scanF, if_pos rfl]
          simp)
        clear hq
        go_wp2_with fail
        go_ret3
        exact ⟨.inr ⟨by rw [HQ.out], _, rfl, by rw [HQ.out]; exact HO.out.reads fun x => rfl⟩, HB.out⟩
end Go.Proofs.YtjgojbkmeggmhaaDoor
