/- The contracts of exact's Check and of few. -/
import Derived.Test.YtliljihkoojggaaGreatDoorExB
import Derived.Test.YtliljihkoojggaaGreatDoorLoc
namespace Go.Proofs.YtliljihkoojggaaGreatDoor
open Go.RowKit

theorem read_c (sn sd : ByteArray) (w : World) (h1 : sn.size ≤ 9223372036854775807) (h2 : sd.size ≤ 9223372036854775807) :
    Calls Tryz.prog 34 #[.agg #[.string sn, .string sd]] w fun e w' => ∃ m A1 n1 c1 A2 n2 c2 c, e = .returned (.tuple #[.agg #[.bool m, .slice A1 n1 c1, .slice A2 n2 c2], .int .i64 c]) ∧ (c = 0 ↔ ∃ m n d, Nt.Rd sn.data.toList sd.data.toList m n d) ∧ Below w.heap.size w w' := by
  refine (read_any sn sd w h1 h2).mono ?_
  rintro e w' ⟨hb, x, c, rfl, (⟨rfl, m, n, d, hr, hx⟩ | ⟨h0, rfl, hno⟩)⟩
  · obtain ⟨A1, c1, A2, c2, rfl, -, -⟩ := hx.at'
    exact ⟨_, _, _, _, _, _, _, _, rfl, ⟨fun _ => ⟨m, n, d, hr⟩, fun _ => rfl⟩, hb⟩
  · exact ⟨_, _, _, _, _, _, _, _, rfl, ⟨fun h => absurd h h0, fun h => absurd h hno⟩, hb⟩

set_option maxRecDepth 100000 in
set_option maxHeartbeats 1000000 in
theorem check_any (sn sd : ByteArray) (w : World) (h1 : sn.size ≤ 9223372036854775807) (h2 : sd.size ≤ 9223372036854775807) :
    Calls Tryz.prog 24 #[.agg #[.string sn, .string sd]] w fun e w' => ∃ c : Int, e = .returned (.int .i64 c) ∧ (c = 0 ↔ ∃ m n d, Nt.Rd sn.data.toList sd.data.toList m n d) ∧ Below w.heap.size w w' := by
  have HR := Lib.hid fun W => read_c sn sd W h1 h2
  have HL0 := Lib.hid ((Loc.start w).alloc' rfl 23 #[.string sn, .string sd])
  clear h1 h2
  go_enter Tryz.func24, Tryz.ntmps24
  go_wp2_with (go_at_call 34; (with_reducible refine (HR.out _).mono ?_); rintro e w1 ⟨m, A1, n1, c1, A2, n2, c2, c, rfl, hc, hb⟩; have HL1 := Lib.hid ((HL0.out.step hb).alloc 53 #[.bool m, .slice A1 n1 c1, .slice A2 n2 c2]); have HC := Lib.hid hc; clear hc hb)
  go_ret
  exact ⟨c, rfl, HC.out, HL1.out.bel⟩
theorem check_t (sn sd : ByteArray) (w : World) (h1 : sn.size ≤ 9223372036854775807) (h2 : sd.size ≤ 9223372036854775807) (h : ∃ m n d, Nt.Rd sn.data.toList sd.data.toList m n d) :
    Calls Tryz.prog 24 #[.agg #[.string sn, .string sd]] w fun e w' => e = .returned (.int .i64 0) ∧ Below w.heap.size w w' :=
  (check_any sn sd w h1 h2).mono fun e w' ⟨c, he, hc, hb⟩ => by obtain rfl := hc.2 h; exact ⟨he, hb⟩
theorem check_f (sn sd : ByteArray) (w : World) (h1 : sn.size ≤ 9223372036854775807) (h2 : sd.size ≤ 9223372036854775807) (h : ¬ ∃ m n d, Nt.Rd sn.data.toList sd.data.toList m n d) :
    Calls Tryz.prog 24 #[.agg #[.string sn, .string sd]] w fun e w' => ∃ c : Int, e = .returned (.int .i64 c) ∧ (c != 0) = true ∧ Below w.heap.size w w' :=
  (check_any sn sd w h1 h2).mono fun e w' ⟨c, he, hc, hb⟩ => ⟨c, he, by rw [bne_iff_ne]; exact fun e => h (hc.1 e), hb⟩

structure Few (p : ByteArray × ByteArray) : Prop where
  rd : ∃ m n d, Nt.Rd p.1.data.toList p.2.data.toList m n d
  l1 : p.1.size ≤ 40
  l2 : p.2.size ≤ 40
/-- The cells of a slice of fractions. -/
def FrCells (W : World) (g : Nat) (l : List (ByteArray × ByteArray)) : Prop :=
  g < W.heap.size ∧ ∀ i (hi : i < l.length), W.cell? ⟨g, i * 2, none⟩ = some (.string l[i].1) ∧ W.cell? ⟨g, i * 2 + 1, none⟩ = some (.string l[i].2)
theorem FrCells.below {W W' : World} {g : Nat} {l : List (ByteArray × ByteArray)} (h : FrCells W g l) (hb : Below W.heap.size W W') : FrCells W' g l :=
  ⟨Nat.lt_of_lt_of_le h.1 hb.size, fun i hi => by
    have := h.2 i hi
    unfold World.cell? at this ⊢
    have e := hb.block g h.1
    simp only at this ⊢
    rw [e]; exact this⟩

set_option maxRecDepth 100000 in
set_option maxHeartbeats 2000000 in
theorem few_any (g : Nat) (l : List (ByteArray × ByteArray)) (w : World) (hc : FrCells w g l) (hl : l.length ≤ 1000) (hs : ∀ p ∈ l, p.1.size ≤ 9223372036854775807 ∧ p.2.size ≤ 9223372036854775807) :
    Calls Tryz.prog 8 #[.slice (some ⟨g, 0, none⟩) l.length l.length] w fun e w' => ∃ b, e = .returned (.bool b) ∧ (b = true ↔ ∀ p ∈ l, Few p) ∧ Below w.heap.size w w' := by
  have HC := Lib.hid hc
  have HS := Lib.hid hs
  clear hc hs
  go_enter Tryz.func8, Tryz.ntmps8
  go_wp2
  go_loopw [7] (fun s wr => ∃ i : Nat, i ≤ l.length ∧ s = .int .i64 (i : Int) ∧ (∀ p ∈ l.take i, Few p) ∧ Below w.heap.size w wr) (fun s _ => l.length - (intOf s).toNat)
  case atStart => exact ⟨0, Nat.zero_le _, rfl, by simp, Below.refl _ _⟩
  case round =>
    obtain ⟨i, hi, rfl, hp, hb⟩ := hrel
    have HP := Lib.hid hp
    have HB := Lib.hid hb
    clear hp hb
    rcases Nat.eq_or_lt_of_le hi with rfl | hlt
    · go_wp2
      go_ret
      exact ⟨true, rfl, by have := HP.out; simpa using this, HB.out⟩
    · obtain ⟨⟨a, b⟩, hab⟩ : ∃ p, p = l[i] := ⟨_, rfl⟩
      have hx := (HC.out.below (HB.out)).2 i hlt
      rw [← hab] at hx
      obtain ⟨x0, x1⟩ := hx
      simp only at x0 x1
      obtain ⟨s1, s2⟩ := HS.out (a, b) (hab ▸ List.getElem_mem hlt)
      have HM := Lib.hid (show (a, b) ∈ l from hab ▸ List.getElem_mem hlt)
      have HAB := Lib.hid hab
      clear hab
      have HLR := Lib.hid ((Loc.start wr).alloc' rfl 23 #[.string a, .string b])
      by_cases hr : ∃ m n d, Nt.Rd a.data.toList b.data.toList m n d
      · have HCT := Lib.hid fun W => check_t a b W s1 s2 hr
        rcases Int.lt_or_le 40 (a.size : Int) with q1 | q1
        · have HNO := Lib.hid (show ¬ Few (a, b) from fun h => by have := h.l1; simp only at this; omega)
          clear hr s1 s2
          go_wp2_with (go_at_call 24; (with_reducible refine (HCT.out _).mono ?_); rintro e w1 ⟨rfl, hb⟩; have HL1 := Lib.hid (HLR.out.step hb); obtain ⟨y0, y1, -, -⟩ := (HL1.out.blk (g := wr.heap.size) (t := 23) (cs := #[.string a, .string b]) (by simp)).two; clear hb)
          go_ret
          exact ⟨false, rfl, ⟨fun h => (by cases h), fun h => absurd (h (a, b) HM.out) HNO.out⟩, below_tr HB.out HL1.out.bel⟩
        · rcases Int.lt_or_le 40 (b.size : Int) with q2 | q2
          · have HNO := Lib.hid (show ¬ Few (a, b) from fun h => by have := h.l2; simp only at this; omega)
            clear hr s1 s2
            go_wp2_with (go_at_call 24; (with_reducible refine (HCT.out _).mono ?_); rintro e w1 ⟨rfl, hb⟩; have HL1 := Lib.hid (HLR.out.step hb); obtain ⟨y0, y1, -, -⟩ := (HL1.out.blk (g := wr.heap.size) (t := 23) (cs := #[.string a, .string b]) (by simp)).two; clear hb)
            go_ret
            exact ⟨false, rfl, ⟨fun h => (by cases h), fun h => absurd (h (a, b) HM.out) HNO.out⟩, below_tr HB.out HL1.out.bel⟩
          · have HYES := Lib.hid (show Few (a, b) from ⟨hr, by simp only; omega, by simp only; omega⟩)
            clear hr s1 s2
            go_wp2_with (go_at_call 24; (with_reducible refine (HCT.out _).mono ?_); rintro e w1 ⟨rfl, hb⟩; have HL1 := Lib.hid (HLR.out.step hb); obtain ⟨y0, y1, -, -⟩ := (HL1.out.blk (g := wr.heap.size) (t := 23) (cs := #[.string a, .string b]) (by simp)).two; clear hb)
            go_roundw
            case rel =>
              refine ⟨i + 1, by omega, by go_num, fun p hp => ?_, below_tr HB.out HL1.out.bel⟩
              rw [← List.take_append_getElem hlt, ← HAB.out] at hp
              rcases List.mem_append.1 hp with h | h
              · exact HP.out p h
              · rw [List.mem_singleton] at h; rw [h]; exact HYES.out
            case measure => simp [intOf]; omega
      · have HCF := Lib.hid fun W => check_f a b W s1 s2 hr
        have HNO := Lib.hid (show ¬ Few (a, b) from fun h => hr h.rd)
        clear hr s1 s2
        go_wp2_with (go_at_call 24; (with_reducible refine (HCF.out _).mono ?_); rintro e w1 ⟨c, rfl, hc, hb⟩; have HL1 := Lib.hid (HLR.out.step hb); clear hb)
        go_ret
        exact ⟨false, rfl, ⟨fun h => (by cases h), fun h => absurd (h (a, b) HM.out) HNO.out⟩, below_tr HB.out HL1.out.bel⟩
theorem few_t (g : Nat) (l : List (ByteArray × ByteArray)) (w : World) (hc : FrCells w g l) (hl : l.length ≤ 1000) (hs : ∀ p ∈ l, p.1.size ≤ 9223372036854775807 ∧ p.2.size ≤ 9223372036854775807) (h : ∀ p ∈ l, Few p) :
    Calls Tryz.prog 8 #[.slice (some ⟨g, 0, none⟩) l.length l.length] w fun e w' => e = .returned (.bool true) ∧ Below w.heap.size w w' :=
  (few_any g l w hc hl hs).mono fun e w' ⟨b, he, hb, hB⟩ => by obtain rfl := hb.2 h; exact ⟨he, hB⟩
theorem few_f (g : Nat) (l : List (ByteArray × ByteArray)) (w : World) (hc : FrCells w g l) (hl : l.length ≤ 1000) (hs : ∀ p ∈ l, p.1.size ≤ 9223372036854775807 ∧ p.2.size ≤ 9223372036854775807) (h : ¬ ∀ p ∈ l, Few p) :
    Calls Tryz.prog 8 #[.slice (some ⟨g, 0, none⟩) l.length l.length] w fun e w' => e = .returned (.bool false) ∧ Below w.heap.size w w' :=
  (few_any g l w hc hl hs).mono fun e w' ⟨b, he, hb, hB⟩ => by
    cases b with
    | true => exact absurd (hb.1 rfl) h
    | false => exact ⟨he, hB⟩
theorem frcells3 (W : World) (a1 a2 b1 b2 c1 c2 : ByteArray) : FrCells (W.alloc (.cells #[.string a1, .string a2, .string b1, .string b2, .string c1, .string c2] 23)) W.heap.size [(a1, a2), (b1, b2), (c1, c2)] := by
  have hb := Blk.new W 23 #[.string a1, .string a2, .string b1, .string b2, .string c1, .string c2]
  refine ⟨by simp, fun i hi => ?_⟩
  match i, hi with
  | 0, _ => exact ⟨hb.cell 0, hb.cell 1⟩
  | 1, _ => exact ⟨hb.cell 2, hb.cell 3⟩
  | 2, _ => exact ⟨hb.cell 4, hb.cell 5⟩
theorem frcells2 (W : World) (a1 a2 b1 b2 : ByteArray) : FrCells (W.alloc (.cells #[.string a1, .string a2, .string b1, .string b2] 23)) W.heap.size [(a1, a2), (b1, b2)] := by
  have hb := Blk.new W 23 #[.string a1, .string a2, .string b1, .string b2]
  refine ⟨by simp, fun i hi => ?_⟩
  match i, hi with
  | 0, _ => exact ⟨hb.cell 0, hb.cell 1⟩
  | 1, _ => exact ⟨hb.cell 2, hb.cell 3⟩
theorem frcells1 (W : World) (a1 a2 : ByteArray) : FrCells (W.alloc (.cells #[.string a1, .string a2] 23)) W.heap.size [(a1, a2)] := by
  have hb := Blk.new W 23 #[.string a1, .string a2]
  refine ⟨by simp, fun i hi => ?_⟩
  match i, hi with
  | 0, _ => exact ⟨hb.cell 0, hb.cell 1⟩
end Go.Proofs.YtliljihkoojggaaGreatDoor
