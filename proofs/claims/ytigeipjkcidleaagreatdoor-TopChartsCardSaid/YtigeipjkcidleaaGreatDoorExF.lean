/- Equality of fractions as structs; fractions (the example of the laws). -/
import Derived.Test.YtigeipjkcidleaaGreatDoorExV
import Derived.Test.YtigeipjkcidleaaGreatDoorExG
namespace Go.Proofs.YtigeipjkcidleaaGreatDoor
open Go.RowKit

def frc (a b : ByteArray) : Value := .agg #[.string a, .string b]
def frSame (a b c d : ByteArray) : Bool := a.toList == c.toList && b.toList == d.toList
theorem frSame_iff (a b c d : ByteArray) : frSame a b c d = true ↔ a = c ∧ b = d := by
  unfold frSame
  rw [Bool.and_eq_true, beq_iff_eq, beq_iff_eq, Lib.toList_data, Lib.toList_data, Lib.toList_data, Lib.toList_data]
  exact ⟨fun ⟨h1, h2⟩ => ⟨ba_ext h1, ba_ext h2⟩, by rintro ⟨rfl, rfl⟩; exact ⟨rfl, rfl⟩⟩
theorem frSame_refl (a b : ByteArray) : frSame a b a b = true := (frSame_iff _ _ _ _).2 ⟨rfl, rfl⟩
theorem fr_stood : Tryz.prog.stoodInHeld 24 = false := by kernel_rfl
theorem fr_fields : Tryz.prog.underlying 24 = some (.struct (Tryz.prog.fieldsOf 24)) := by kernel_rfl
theorem eq_s (W : World) (a b : ByteArray) : (Op.equalIn 9999 9 (.string a) (.string b)).run Tryz.prog W = .ok (a.toList == b.toList) W := run_equalIn_string W 9998 _ a b Tryz.underlying9
theorem fr_equalIn (a b c d : ByteArray) (W : World) : (Op.equalIn 10000 24 (.agg #[.string a, .string b]) (.agg #[.string c, .string d])).run Tryz.prog W = .ok (frSame a b c d) W := by
  rw [run_equalIn_struct W 9999 _ _ _ fr_fields fr_stood]
  simp only [Program.fieldsOf, Tryz.underlying24]
  simp only [Op.eqFields, Sem.run_bind, Sem.run_ite, part]
  simp [eq_s]
  unfold frSame
  repeat' split
  all_goals simp [*]
theorem fr_neq (a b c d : ByteArray) (W : World) : (binOp .neq 24 (.agg #[.string a, .string b]) (.agg #[.string c, .string d])).run Tryz.prog W = .ok (.bool (!frSame a b c d)) W := by
  rw [run_neq_struct, fr_equalIn]; rfl
theorem fr_eql (a b c d : ByteArray) (W : World) : (binOp .eql 24 (.agg #[.string a, .string b]) (.agg #[.string c, .string d])).run Tryz.prog W = .ok (.bool (frSame a b c d)) W := by
  rw [run_eql_struct, fr_equalIn]; rfl
theorem fr_neq_self (a b : ByteArray) (W : World) : (binOp .neq 24 (.agg #[.string a, .string b]) (.agg #[.string a, .string b])).run Tryz.prog W = .ok (.bool false) W := by rw [fr_neq, frSame_refl]; rfl
theorem fr_eql_self (a b : ByteArray) (W : World) : (binOp .eql 24 (.agg #[.string a, .string b]) (.agg #[.string a, .string b])).run Tryz.prog W = .ok (.bool true) W := by rw [fr_eql, frSame_refl]

namespace Nt
theorem rd_small (n d : Nat) (hn : n < 10) (hd : d < 10) (h0 : d ≠ 0) (hg : Nat.gcd n d = 1) : Rd [UInt8.ofNat (48 + n)] [UInt8.ofNat (48 + d)] false n d :=
  ⟨by rw [Lib.decDigits_one hn]; rfl, by rw [Lib.decDigits_one hd], h0, fun _ => rfl, by rw [Lib.decDigits_one hn]; simp, by rw [Lib.decDigits_one hd]; simp, hg⟩
theorem qk_small (n d k : Nat) (hn : n < 10) (hd : d < 10) (h0 : d ≠ 0) (hg : Nat.gcd n d = 1) : Qk [UInt8.ofNat (48 + n)] [UInt8.ofNat (48 + d)] n d (k + 1) := by
  have hp : 1 ≤ 10 ^ k := Nat.one_le_pow _ _ (by decide)
  refine ⟨⟨h0, false, n, d, rd_small n d hn hd h0 hg, rfl⟩, ?_, ?_⟩
  · rw [Int.natAbs_natCast, Nat.pow_succ]; omega
  · rw [Nat.pow_succ]; omega
end Nt
theorem Few.qk {p : ByteArray × ByteArray} (h : Few p) : ∃ z d, Nt.Qk p.1.data.toList p.2.data.toList z d 40 := by
  obtain ⟨m, n, d, hr⟩ := h.rd
  exact ⟨_, _, hr.qk h.l1 h.l2⟩
theorem is_str {s : ByteArray} {l : List UInt8} (h : s.data.toList = l) : (s.toList == l) = true := by rw [Lib.toList_data, h]; simp
theorem not_str {s : ByteArray} {l : List UInt8} (h : s.data.toList ≠ l) : (s.toList == l) = false := by rw [Lib.toList_data]; simpa using h
theorem fits150 : Fits (Nt.dval [49, 53, 48]) (10 ^ 2) := by
  have e : Nt.dval [49, 53, 48] = 150 := by decide
  rw [e]
  have h1 : (Nt.digs 150).length ≤ 1 := Nt.digs_len (by decide)
  have h2 : (Nt.digs (10 ^ 2)).length ≤ 1 := Nt.digs_len (by decide)
  exact ⟨by omega, by omega, Nat.le_trans (Nt.dd_le (k := 0) (by decide)) (by decide), Nat.le_trans (Nt.dd_le (k := 0) (by decide)) (by decide)⟩
theorem parse_150 (w : World) (htab : Lib.TabIs Tryz.prog w "internal/strconv.uint64pow10" .u64 Lib.pow10Tab) :
    Calls Tryz.prog 250 #[.string ⟨#[49, 46, 53, 48]⟩] w fun e w' => e = .returned (.tuple #[.agg #[.string ⟨#[51]⟩, .string ⟨#[50]⟩], .int .i64 0]) ∧ Below w.heap.size w w' := by
  have h := parse_frac ⟨#[49, 46, 53, 48]⟩ ⟨#[49, 46, 53, 48]⟩ ⟨#[49]⟩ ⟨#[46, 53, 48]⟩ ⟨#[53, 48]⟩ false w rfl rfl rfl
    (by intro c hc; simp at hc; subst hc; exact ⟨by decide, by decide⟩) (by simp) (by intro c hc; simp at hc; rcases hc with rfl | rfl <;> exact ⟨by decide, by decide⟩) (by simp) (by decide) fits150 htab
  refine h.mono ?_
  rintro e w' ⟨hb, sn, sd, rfl, e1, e2⟩
  have e0 : Nt.dval [49, 53, 48] = 150 := by decide
  have x1 : sn.data.toList = [51] := by
    rw [e1]
    show Nt.numT false (Nt.dval [49, 53, 48]) (10 ^ 2) = _
    rw [e0, Nt.numT, if_neg (by decide), show 150 / Nat.gcd 150 (10 ^ 2) = 3 from by decide, Lib.decDigits_one (by decide)]
    rfl
  have x2 : sd.data.toList = [50] := by
    rw [e2]
    show Nt.denT (Nt.dval [49, 53, 48]) (10 ^ 2) = _
    rw [e0, Nt.denT, if_neg (by decide), show 10 ^ 2 / Nat.gcd 150 (10 ^ 2) = 2 from by decide, Lib.decDigits_one (by decide)]
    rfl
  obtain rfl : sn = ⟨#[51]⟩ := ba_ext x1
  obtain rfl : sd = ⟨#[50]⟩ := ba_ext x2
  exact ⟨rfl, hb⟩
theorem of_c (n : Nat) (w : World) (hn : n < 10) (htab : Lib.TabIs Tryz.prog w "internal/strconv.uint64pow10" .u64 Lib.pow10Tab) :
    Calls Tryz.prog 9 #[.int .i64 (n : Int)] w fun e w' => e = .returned (.agg #[.string ⟨#[UInt8.ofNat (48 + n)]⟩, .string ⟨#[49]⟩]) ∧ Below w.heap.size w w' := by
  refine (of_nat n w (by omega) htab).mono ?_
  rintro e w' ⟨t, rfl, ht, hb⟩
  rw [Lib.decDigits_one hn] at ht
  obtain rfl : t = ⟨#[UInt8.ofNat (48 + n)]⟩ := ba_ext ht
  exact ⟨rfl, hb⟩
theorem mul_c (w : World) (htab : Lib.TabIs Tryz.prog w "internal/strconv.uint64pow10" .u64 Lib.pow10Tab) :
    Calls Tryz.prog 82 #[.agg #[.string ⟨#[51]⟩, .string ⟨#[50]⟩], .agg #[.string ⟨#[52]⟩, .string ⟨#[49]⟩]] w fun e w' => e = .returned (.tuple #[.agg #[.string ⟨#[54]⟩, .string ⟨#[49]⟩], .int .i64 0]) ∧ Below w.heap.size w w' := by
  refine (mul_q ⟨#[51]⟩ ⟨#[50]⟩ ⟨#[52]⟩ ⟨#[49]⟩ 3 4 2 1 1 1 w (Nt.qk_small 3 2 0 (by decide) (by decide) (by decide) (by decide)) (Nt.qk_small 4 1 0 (by decide) (by decide) (by decide) (by decide)) (by omega) htab).mono ?_
  rintro e w' ⟨sn, sd, rfl, hq, hb⟩
  obtain ⟨x1, x2⟩ := hq.q.same (Nt.qk_small 6 1 0 (by decide) (by decide) (by decide) (by decide)).q (by decide)
  obtain rfl : sn = ⟨#[54]⟩ := ba_ext x1
  obtain rfl : sd = ⟨#[49]⟩ := ba_ext x2
  exact ⟨rfl, hb⟩

section
variable {w W : World} {L : List (Nat × TypeId × Array Value)} {g z : Nat} {t : TypeId} {a b : Value}
theorem Loc.s2 (h : Loc w L W) (hm : (g, t, #[a, b]) ∈ L) : W.cell? ⟨g, 0, none⟩ = some a ∧ W.cell? ⟨g, 1, none⟩ = some b := ⟨(h.blk hm).two.1, (h.blk hm).two.2.1⟩
theorem Loc.s2f (h : Loc w L W) (hm : (g, t, #[a, b]) ∈ L) (hz : g ≠ z) (y0 y1 : Value) : ((W.setCell ⟨z, 0, none⟩ y0).setCell ⟨z, 1, none⟩ y1).cell? ⟨g, 0, none⟩ = some a ∧ ((W.setCell ⟨z, 0, none⟩ y0).setCell ⟨z, 1, none⟩ y1).cell? ⟨g, 1, none⟩ = some b :=
  have p := ((h.blk hm).far (p := ⟨z, 0, none⟩) hz y0).far (p := ⟨z, 1, none⟩) hz y1
  ⟨p.cell 0, p.cell 1⟩
theorem Loc.set2 {x0 x1 : Value} (h : Loc w ((g, t, #[x0, x1]) :: L) W) (hne : ∀ x ∈ L, x.1 ≠ g) (y0 y1 : Value) : Loc w ((g, t, #[y0, y1]) :: L) ((W.setCell ⟨g, 0, none⟩ y0).setCell ⟨g, 1, none⟩ y1) :=
  ⟨below_two h.1 (h.2 _ (List.mem_cons_self ..)).1 _ _, fun x hx => by
    rcases List.mem_cons.1 hx with rfl | hx
    · exact ⟨(h.2 _ (List.mem_cons_self ..)).1, ((h.2 _ (List.mem_cons_self ..)).2.two_set _ _).1⟩
    · have := h.2 x (List.mem_cons_of_mem _ hx)
      exact ⟨this.1, (this.2.far (p := ⟨g, 0, none⟩) (hne x hx) _).far (p := ⟨g, 1, none⟩) (hne x hx) _⟩⟩
end

end Go.Proofs.YtigeipjkcidleaaGreatDoor
