/- kinds: does a change hold steps of a kind. -/
import Derived.Test.YtjgojbkmeggmhaaDoorAxA
namespace Go.Proofs.YtjgojbkmeggmhaaDoor
open Go.RowKit

set_option maxRecDepth 100000 in
set_option maxHeartbeats 4000000 in
theorem kinds1_any (w : World) (q n kd : Int) (B : Nat) (h : w.cell? ⟨B, 0, none⟩ = some (.int .i64 kd)) (hB : B < w.heap.size) :
    Calls Tryd.prog 48 #[.agg #[.int .i64 q, .int .i64 n], .pointer (some ⟨B, 0, none⟩)] w fun e w' => e = .returned (.bool (q == kd)) ∧ Below w.heap.size w w' := by
  have h2 : (w.alloc (.cells #[.int .i64 q, .int .i64 n] 103)).cell? ⟨B, 0, none⟩ = some (.int .i64 kd) := (((Below.refl w.heap.size w).alloc (Nat.le_refl _) _).cell (by exact hB)).trans h
  cases hq : ((q : Int) == kd) <;>
  · go_enter Tryd.func48, Tryd.ntmps48
    go_wp2_with fail
    go_ret
    exact ⟨rfl, (Below.refl _ _).alloc (Nat.le_refl _) _⟩

set_option maxRecDepth 100000 in
set_option maxHeartbeats 4000000 in
theorem index_any (w : World) (v : Value) (l : List Ax.Step) (kd : Int) (B : Nat) (hv : Steps w v l) (hl : l.length ≤ 10000000000) (h : w.cell? ⟨B, 0, none⟩ = some (.int .i64 kd)) (hB : B < w.heap.size) :
    Calls Tryd.prog 84 #[v, .func (.func 48) #[] #[.pointer (some ⟨B, 0, none⟩)]] w fun e w' => (∃ r, e = .returned (.int .i64 r) ∧ decide (0 ≤ r) = l.any (·.1 == kd)) ∧ Below w.heap.size w w' := by
  obtain ⟨A, c, rfl⟩ := hv.shape
  have HV := Lib.hid hv
  have HK := Lib.hid fun W (hb : Below w.heap.size w W) q n => kinds1_any W q n kd B ((hb.cell (by exact hB)).trans h) (Nat.lt_of_lt_of_le hB hb.size)
  clear hv h hB
  go_enter Tryd.func84, Tryd.ntmps84
  go_wp2_with fail
  go_loopw [8] (fun i wr => ∃ (k : Nat), k ≤ l.length ∧ i = .int .i64 k ∧ Hid (Below w.heap.size w wr) ∧ Hid (l.any (·.1 == kd) = (l.drop k).any (·.1 == kd))) (fun i _ => l.length - (intOf i).toNat)
  case atStart => exact ⟨0, Nat.zero_le _, rfl, Lib.hid (Below.refl _ _), Lib.hid rfl⟩
  case round =>
    obtain ⟨k, hk, rfl, HB, HQ⟩ := hrel
    by_cases hlt : k < l.length
    · obtain ⟨⟨q, n⟩, htk⟩ : ∃ x, x = l[k] := ⟨_, rfl⟩
      have hd : l.drop k = (q, n) :: l.drop (k + 1) := by rw [htk]; exact List.drop_eq_getElem_cons hlt
      have HQ1 := Lib.hid (show l.any (·.1 == kd) = ((q == kd) || (l.drop (k + 1)).any (·.1 == kd)) from by rw [HQ.out, hd]; rfl)
      obtain ⟨A', c', e', hc', -, hrd⟩ := (HV.out.below HB.out)
      injection e' with e1 _ e3
      subst e1 e3
      obtain ⟨b, p, rfl, hblt, hcell⟩ := hrd (by omega)
      have g0 : wr.cell? ⟨b, p + k * 2, none⟩ = some (.int .i64 q) := by have := hcell k hlt 0 (by decide); rw [← htk] at this; exact this
      have g1 : wr.cell? ⟨b, p + k * 2 + 1, none⟩ = some (.int .i64 n) := by have := hcell k hlt 1 (by decide); rw [← htk] at this; exact this
      clear htk hcell hrd hd HQ
      cases hq : ((q : Int) == kd)
      · have HK1 := Lib.hid (show Calls Tryd.prog 48 #[.agg #[.int .i64 q, .int .i64 n], .pointer (some ⟨B, 0, none⟩)] wr fun e w' => e = .returned (.bool false) ∧ Below wr.heap.size wr w' from by rw [← hq]; exact HK.out wr HB.out q n)
        have HQ2 := Lib.hid (show l.any (·.1 == kd) = (l.drop (k + 1)).any (·.1 == kd) from by rw [HQ1.out, hq]; rfl)
        go_wp2_with (go_at_call 48; refine HK1.out.mono ?_; rintro e w2 ⟨rfl, hb⟩; have HB2 := Lib.hid (HB.out.trans (hb.mono HB.out.size)); clear hb)
        exact ⟨⟨k + 1, by omega, by go_num, HB2, HQ2⟩, by simp [intOf]; omega⟩
      · have HK1 := Lib.hid (show Calls Tryd.prog 48 #[.agg #[.int .i64 q, .int .i64 n], .pointer (some ⟨B, 0, none⟩)] wr fun e w' => e = .returned (.bool true) ∧ Below wr.heap.size wr w' from by rw [← hq]; exact HK.out wr HB.out q n)
        have HQ2 := Lib.hid (show l.any (·.1 == kd) = true from by rw [HQ1.out, hq]; rfl)
        go_wp2_with (go_at_call 48; refine HK1.out.mono ?_; rintro e w2 ⟨rfl, hb⟩; have HB2 := Lib.hid (HB.out.trans (hb.mono HB.out.size)); clear hb)
        go_ret
        exact ⟨⟨_, rfl, by rw [HQ2.out]; simp⟩, HB2.out⟩
    · obtain rfl : k = l.length := by omega
      go_wp2_with fail
      go_ret
      exact ⟨⟨_, rfl, by rw [HQ.out, List.drop_of_length_le (Nat.le_refl _)]; rfl⟩, HB.out⟩

set_option maxRecDepth 100000 in
set_option maxHeartbeats 4000000 in
theorem contains_any (w : World) (v : Value) (l : List Ax.Step) (kd : Int) (B : Nat) (hv : Steps w v l) (hl : l.length ≤ 10000000000) (h : w.cell? ⟨B, 0, none⟩ = some (.int .i64 kd)) (hB : B < w.heap.size) :
    Calls Tryd.prog 47 #[v, .func (.func 48) #[] #[.pointer (some ⟨B, 0, none⟩)]] w fun e w' => e = .returned (.bool (l.any (·.1 == kd))) ∧ Below w.heap.size w w' := by
  have HX := Lib.hid (index_any w v l kd B hv hl h hB)
  clear hv h hB
  go_enter Tryd.func47, Tryd.ntmps47
  go_wp2_with (go_at_call 84; refine HX.out.mono ?_; rintro e w2 ⟨⟨r, rfl, hr⟩, hb⟩; have HR := Lib.hid hr; have HB := Lib.hid hb; clear hr hb)
  go_ret
  exact ⟨ret_bool (by rw [← HR.out]), HB.out⟩

set_option maxRecDepth 100000 in
set_option maxHeartbeats 4000000 in
theorem kinds_any (w : World) (v : Value) (l : List Ax.Step) (kd : Int) (hv : Steps w v l) (hl : l.length ≤ 10000000000) :
    Calls Tryd.prog 18 #[v, .int .i64 kd] w fun e w' => e = .returned (.bool (l.any (·.1 == kd))) ∧ Below w.heap.size w w' := by
  obtain ⟨A, c, rfl⟩ := hv.shape
  have hal := (Below.refl w.heap.size w).alloc (Nat.le_refl _) (.cells #[.int .i64 kd] 3)
  have HC := Lib.hid (contains_any (w.alloc (.cells #[.int .i64 kd] 3)) _ l kd w.heap.size (hv.below hal) hl ((Blk.new w _ _).cell 0) (by simp))
  clear hv hal
  go_enter Tryd.func18, Tryd.ntmps18
  go_wp2_with (go_at_call 47; refine HC.out.mono ?_; rintro e w2 ⟨rfl, hb⟩; have HB := Lib.hid (((Below.refl w.heap.size w).alloc (Nat.le_refl _) _).trans (hb.mono (by simp))); clear hb)
  go_ret
  exact ⟨rfl, HB.out⟩
end Go.Proofs.YtjgojbkmeggmhaaDoor
