/- value: the texts of values: which characters they may have. -/
import Derived.Test.YtcnlonaighlmbaaGreatDoorHaa
import Derived.Test.YtcnlonaighlmbaaGreatDoorHaa
import Derived.Test.YtcnlonaighlmbaaGreatDoorLoc
import Derived.Test.YtcnlonaighlmbaaGreatDoorShelf
import Derived.WalkKit
import Derived.WalkSpells
import Derived.Outline
import Derived.Lib.Hide
import Derived.Lib.TrimU
import Derived.Lib.QuoteLoop
import Derived.Deep.DeepCutAuto
import Derived.LoopTactic
import Derived.Laws.IdiomStrings
set_option linter.unusedSimpArgs false
set_option linter.unusedVariables false
namespace Go.Proofs.YtcnlonaighlmbaaGreatDoor
open Go.RowKit

theorem retB {a b : Bool} (h : a = b) : Ending.returned (.bool a) = .returned (.bool b) := by rw [h]
/-- May a character stand in a text? -/
def chB (c : Int) : Bool := decide (c = 9 ∨ c = 10 ∨ (32 ≤ c ∧ c < 127) ∨ (160 ≤ c ∧ c < 55296) ∨ (57343 < c ∧ c ≤ 1114111))
theorem chB_iff (c : Int) : chB c = true ↔ (c = 9 ∨ c = 10 ∨ (32 ≤ c ∧ c < 127) ∨ (160 ≤ c ∧ c < 55296) ∨ (57343 < c ∧ c ≤ 1114111)) := decide_eq_true_iff
theorem char_any (c : Int) (w : World) :
    Calls Tryz.prog 101 #[.int .i64 c] w fun e w' => e = .returned (.bool (chB c)) ∧ w = w' := by
  go_enter Tryz.func101, Tryz.ntmps101
  go_wp2
  all_goals (go_ret; refine ⟨retB ?_, rfl⟩; rw [Bool.eq_iff_iff, chB_iff]; simp only [Bool.or_eq_true, beq_iff_eq, decide_eq_true_eq]; first | omega | (simp; omega))
theorem char_t {c : Int} (h : chB c = true) (w : World) : Calls Tryz.prog 101 #[.int .i64 c] w fun e w' => e = .returned (.bool true) ∧ w = w' := by have := char_any c w; rwa [h] at this
theorem char_f {c : Int} (h : chB c = false) (w : World) : Calls Tryz.prog 101 #[.int .i64 c] w fun e w' => e = .returned (.bool false) ∧ w = w' := by have := char_any c w; rwa [h] at this

/-- Are all characters of a text permitted? -/
def txtF : Nat → ByteArray → Bool
  | 0, _ => true
  | f + 1, s => if s.size = 0 then true else
    if ((Lib.decodeGo s).1 = 65533 ∧ (Lib.decodeGo s).2 = 1) ∨ chB (Lib.decodeGo s).1 = false then false else txtF f (s.extract (Lib.decodeGo s).2 s.size)
/-- The error of a text. -/
def txtE (s : ByteArray) : Int := if 32767 < s.size then 3 else if txtF s.size s = true then 0 else 23
theorem ba_nil {t : ByteArray} (h : t.size = 0) : t.data.toList = [] := List.eq_nil_of_length_eq_zero h
theorem dec_lo (s : ByteArray) (h : s.size ≠ 0) : 1 ≤ (Lib.decodeGo s).2 := by
  unfold Lib.decodeGo
  rw [if_neg h]
  exact Lib.width_pos s 0

set_option maxRecDepth 100000 in
set_option maxHeartbeats 1000000 in
theorem vtext_any (s : ByteArray) (w : World) (ht : Lib.Utf8Tabs 4 5 w) (hs : s.size ≤ 9223372036854775807) :
    Calls Tryz.prog 43 #[.string s] w fun e w' => e = .returned (.int .i64 (txtE s)) ∧ Below w.heap.size w w' := by
  have HT := Lib.hid ht
  clear ht
  by_cases hb : 32767 < s.size
  · have HE := Lib.hid (show txtE s = 3 from if_pos hb)
    go_enter Tryz.func43, Tryz.ntmps43
    go_wp2
    go_ret
    exact ⟨by rw [HE.out]; rfl, Below.refl _ _⟩
  · have HE := Lib.hid (show txtE s = if txtF s.size s = true then 0 else 23 from if_neg hb)
    go_enter Tryz.func43, Tryz.ntmps43
    go_wp2
    go_loopw [0] (fun v wr => ∃ t : ByteArray, v = .string t ∧ t.size ≤ s.size ∧ (∃ f, t.size ≤ f ∧ Hid (txtF s.size s = txtF f t)) ∧ Hid (Below w.heap.size w wr)) (fun v _ => match v with | .string t => t.size | _ => 0)
    case atStart => exact ⟨s, rfl, Nat.le_refl _, ⟨s.size, Nat.le_refl _, Lib.hid rfl⟩, Lib.hid (Below.refl _ _)⟩
    case round =>
      obtain ⟨t, rfl, htl, ⟨f, hf, HQ⟩, HB⟩ := hrel
      by_cases hz : t.size = 0
      · have he : t.toList.isEmpty = true := by rw [Lib.toList_data]; simp [ba_nil hz]
        have he2 : t.toList = [] := by rw [Lib.toList_data]; exact ba_nil hz
        have HQ1 := Lib.hid (show txtE s = 0 from by rw [HE.out, HQ.out]; cases f with
          | zero => rfl
          | succ f => rw [txtF, if_pos hz]; rfl)
        clear hz
        go_wp2
        go_ret
        exact ⟨by rw [HQ1.out]; rfl, HB.out⟩
      · obtain ⟨f, rfl⟩ : ∃ g, f = g + 1 := ⟨f - 1, by omega⟩
        have hl := dec_lo t hz
        have hh : (Lib.decodeGo t).2 ≤ t.size := by unfold Lib.decodeGo; rw [if_neg hz]; exact Lib.width_le t (by omega)
        have hrl : (((Lib.decodeGo t).1 : Nat) : Int) ≤ 1114111 := by unfold Lib.decodeGo; rw [if_neg hz]; have := Lib.rune_le t 0; omega
        have he : t.toList.isEmpty = false := by
          rw [Lib.toList_data]
          cases h : t.data.toList with
          | nil => exact absurd (by have := congrArg List.length h; simpa using this) hz
          | cons _ _ => rfl
        have he2 : t.toList ≠ [] := fun h => by rw [h] at he; cases he
        have HD := Lib.hid (Tryz.utf8_DecodeRuneInString t wr (Utf8Tabs_below HT.out HB.out))
        have hq := HQ.out
        rw [txtF, if_neg hz] at hq
        have HQ1 := Lib.hid hq
        clear HQ hq
        generalize Lib.decodeGo t = r at *
        obtain ⟨c, n⟩ := r
        dsimp only at hl hh hrl
        by_cases h1 : c = 65533 ∧ n = 1
        · obtain ⟨rfl, rfl⟩ := h1
          have HQ2 := Lib.hid (show txtE s = 23 from by rw [HE.out, show txtF s.size s = false from HQ1.out.trans (if_pos (Or.inl ⟨rfl, rfl⟩))]; rfl)
          clear HQ1
          go_wp2_with (go_at_call 41; refine HD.out.mono ?_; rintro e w1 ⟨rfl, hb⟩; have HB1 := Lib.hid (HB.out.trans (hb.mono HB.out.size)); clear hb)
          go_ret
          exact ⟨by rw [HQ2.out]; rfl, HB1.out⟩
        · have hnc : (((c : Int) == 65533) = false) ∨ (((c : Int) == 65533) = true ∧ ((n : Int) == 1) = false) := by
            by_cases e1 : c = 65533
            · right
              exact ⟨by simp [e1], by rw [beq_eq_false_iff_ne]; omega⟩
            · left
              rw [beq_eq_false_iff_ne]; omega
          cases h2 : chB (c : Int) with
          | false =>
            have HQ2 := Lib.hid (show txtE s = 23 from by rw [HE.out, show txtF s.size s = false from HQ1.out.trans (if_pos (Or.inr h2))]; rfl)
            have HC := Lib.hid fun W => char_f h2 W
            clear HQ1 h1 h2
            rcases hnc with b1 | ⟨b1, b2⟩
            all_goals
              go_wp2_with (first | (go_at_call 41; refine HD.out.mono ?_; rintro e w1 ⟨rfl, hb⟩; have HB1 := Lib.hid (HB.out.trans (hb.mono HB.out.size)); clear hb) | (go_at_call 101; refine (HC.out _).mono ?_; rintro e w2 ⟨rfl, rfl⟩))
              go_ret
              exact ⟨by rw [HQ2.out]; rfl, HB1.out⟩
          | true =>
            have HQ2 := Lib.hid (show txtF s.size s = txtF f (t.extract n t.size) from by
              rw [HQ1.out, if_neg]
              rintro (h | h)
              · exact h1 h
              · rw [h2] at h; cases h)
            have HC := Lib.hid fun W => char_t h2 W
            clear HQ1 h1 h2
            rcases hnc with b1 | ⟨b1, b2⟩
            all_goals
              go_wp2_with (first | (go_at_call 41; refine HD.out.mono ?_; rintro e w1 ⟨rfl, hb⟩; have HB1 := Lib.hid (HB.out.trans (hb.mono HB.out.size)); clear hb) | (go_at_call 101; refine (HC.out _).mono ?_; rintro e w2 ⟨rfl, rfl⟩))
              go_roundw
              case rel => exact ⟨_, rfl, by simp; omega, ⟨f, by simp; omega, HQ2⟩, HB1⟩
              case measure => simp; omega
end Go.Proofs.YtcnlonaighlmbaaGreatDoor

namespace Go.Proofs.YtcnlonaighlmbaaGreatDoor
open Go.RowKit

/-- A byte with small letters for the capital ones. -/
def lowB (c : UInt8) : UInt8 := if 65 ≤ c.toNat ∧ c.toNat ≤ 90 then c + 32 else c
def lowL (l : List UInt8) : List UInt8 := l.map lowB
theorem lowB_yes {c : UInt8} (h1 : 65 ≤ c.toNat) (h2 : c.toNat ≤ 90) : (c.toNat : Int) + 32 = ((lowB c).toNat : Int) := by
  unfold lowB
  rw [if_pos ⟨h1, h2⟩]
  have : (c + 32).toNat = c.toNat + 32 := by rw [UInt8.toNat_add]; simp; omega
  omega
theorem lowB_no {c : UInt8} (h : ¬ (65 ≤ c.toNat ∧ c.toNat ≤ 90)) : lowB c = c := if_neg h
/-- What Lower's block holds after i rounds. -/
def LowAt (W : World) (b : Nat) (l : List UInt8) (i : Nat) : Prop :=
  ∀ j (h : j < l.length), W.cell? ⟨b, j, none⟩ = some (.int .u8 ((if j < i then lowB l[j] else l[j]).toNat : Int)) ∧ W.frozen? ⟨b, j, none⟩ = false
theorem LowAt.keep {W : World} {b i : Nat} {l : List UInt8} (h : LowAt W b l i) (hi : i < l.length) (hn : lowB l[i] = l[i]) : LowAt W b l (i + 1) := fun j hj => by
  refine ⟨?_, (h j hj).2⟩
  rw [(h j hj).1]
  by_cases e : j = i
  · subst e; rw [if_neg (by omega), if_pos (by omega), hn]
  · by_cases e2 : j < i
    · rw [if_pos e2, if_pos (by omega)]
    · rw [if_neg e2, if_neg (by omega)]
theorem LowAt.set {W : World} {b i : Nat} {l : List UInt8} (h : LowAt W b l i) (hi : i < l.length) (y : Int) (hy : y = ((lowB l[i]).toNat : Int)) : LowAt (W.setCell ⟨b, i, none⟩ (.int .u8 y)) b l (i + 1) := fun j hj => by
  subst hy
  by_cases e : j = i
  · subst e
    refine ⟨?_, by rw [World.frozen?_setCell]; exact (h j hj).2⟩
    rw [World.cell?_setCell_same _ _ _ (h j hj).1, if_pos (by omega)]
  · refine ⟨?_, by rw [World.frozen?_setCell]; exact (h j hj).2⟩
    rw [World.cell?_setCell_other _ _ _ _ (fun e' => e (by injection e' with _ h2 _; exact h2.symm)), (h j hj).1]
    by_cases e2 : j < i
    · rw [if_pos e2, if_pos (by omega)]
    · rw [if_neg e2, if_neg (by omega)]

set_option maxRecDepth 100000 in
set_option maxHeartbeats 1000000 in
theorem lower_any (s : ByteArray) (w : World) (hs : s.size ≤ 9223372036854775807) :
    Calls Tryz.prog 39 #[.string s] w fun e w' => e = .returned (.string ⟨(lowL s.data.toList).toArray⟩) ∧ Below w.heap.size w w' := by
  have hconv := run_bytes_of_string w 9 105 5 s Tryz.underlying9 Tryz.underlying105 Tryz.underlying5
  have HW : LowAt (w.drew.alloc (.cells (bytesRow s (grownCap w s.size 0 5)) 5 ((bytesRow s (grownCap w s.size 0 5)).size, (bytesRow s (grownCap w s.size 0 5)).size + 1))) w.heap.size s.data.toList 0 := fun j hj => by
    have hj' : j < s.data.size := by simpa using hj
    have hsz : j < (bytesRow s (grownCap w s.size 0 5)).size := by
      have := bytesRow_at s (grownCap w s.size 0 5) j hj'
      exact (Array.getElem?_eq_some_iff.1 this).1
    refine ⟨(World.cell?_alloc_mark w.drew _ _ _ j).trans ?_, (World.frozen?_alloc_mark w.drew _ _ _ _ j).trans ?_⟩
    · rw [bytesRow_at s _ j hj', if_neg (by omega)]; simp
    · simp; omega
  have HB := Lib.hid ((Below.refl w.heap.size w).drew.alloc (Nat.le_refl _) (.cells (bytesRow s (grownCap w s.size 0 5)) 5 ((bytesRow s (grownCap w s.size 0 5)).size, (bytesRow s (grownCap w s.size 0 5)).size + 1)))
  have HL := Lib.hid HW
  clear HW
  generalize grownCap w s.size 0 5 = cp at *
  generalize w.drew.alloc (.cells (bytesRow s cp) 5 ((bytesRow s cp).size, (bytesRow s cp).size + 1)) = W at *
  generalize hbz : w.heap.size = B at *
  have HBZ := Lib.hid hbz
  clear hbz
  go_enter Tryz.func39, Tryz.ntmps39
  go_wp2
  clear hconv
  go_loopw [10] (fun i wr => ∃ k : Nat, k ≤ s.size ∧ i = .int .i64 (k : Int) ∧ Hid (LowAt wr B s.data.toList k) ∧ Hid (Below B w wr)) (fun i _ => s.size - (intOf i).toNat)
  case atStart => exact ⟨0, Nat.zero_le _, rfl, HL, HB⟩
  case round =>
    obtain ⟨k, hk, rfl, HLk, HBk⟩ := hrel
    by_cases hlt : k < s.size
    · have hk' : k < s.data.toList.length := by simpa using hlt
      obtain ⟨g0, g1⟩ := HLk.out k hk'
      rw [if_neg (by omega)] at g0
      obtain ⟨c, hc⟩ : ∃ c, c = s.data.toList[k] := ⟨_, rfl⟩
      rw [← hc] at g0
      have hcb := UInt8.toNat_lt c
      by_cases hup : 65 ≤ c.toNat ∧ c.toNat ≤ 90
      · obtain ⟨u1, u2⟩ := hup
        have HY := Lib.hid (lowB_yes u1 u2)
        have HC := Lib.hid hc
        clear hc
        go_wp2
        go_roundw
        case rel => exact ⟨k + 1, by omega, by go_num, Lib.hid (HLk.out.set hk' _ (by rw [HY.out, HC.out])), Lib.hid (HBk.out.setCell (by simp) _)⟩
        case measure => simp [intOf]; omega
      · have hn := Lib.hid (lowB_no hup)
        have HC := Lib.hid hc
        have hup' : ¬ (65 ≤ c.toNat) ∨ (65 ≤ c.toNat ∧ ¬ c.toNat ≤ 90) := by omega
        clear hc hup
        rcases hup' with u1 | ⟨u1, u2⟩
        all_goals
          go_wp2
          go_roundw
          case rel => exact ⟨k + 1, by omega, by go_num, Lib.hid (HLk.out.keep hk' (by rw [← HC.out]; exact hn.out)), HBk⟩
          case measure => simp [intOf]; omega
    · obtain rfl : k = s.size := by omega
      have hb := run_convert_bytes_back wr 105 9 5 ⟨B, 0, none⟩ cp (lowL s.data.toList) Tryz.underlying105 Tryz.underlying5 Tryz.underlying9 (fun j hj => by
        have hj' : j < s.data.toList.length := by simpa [lowL] using hj
        have := (HLk.out j hj').1
        rw [if_pos (by simpa using hj')] at this
        rw [Addr.add_lit, Nat.zero_add, this]
        simp [lowL])
      rw [show (lowL s.data.toList).length = s.size by simp [lowL]] at hb
      go_wp2
      go_ret
      exact ⟨rfl, HBk.out⟩
end Go.Proofs.YtcnlonaighlmbaaGreatDoor
