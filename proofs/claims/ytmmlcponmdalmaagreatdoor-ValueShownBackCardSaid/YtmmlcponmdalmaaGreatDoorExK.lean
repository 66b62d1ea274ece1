/- The contracts of exact's scaled and rounded. -/
import Derived.Test.YtmmlcponmdalmaaGreatDoorExH
import Derived.Test.YtmmlcponmdalmaaGreatDoorExV
namespace Go.Proofs.YtmmlcponmdalmaaGreatDoor
open Go.RowKit

theorem Loc.s3 {w W : World} {L : List (Nat × TypeId × Array Value)} {g : Nat} {t : TypeId} {a b c : Value} (h : Loc w L W) (hm : (g, t, #[a, b, c]) ∈ L) : W.cell? ⟨g, 0, none⟩ = some a ∧ W.cell? ⟨g, 1, none⟩ = some b ∧ W.cell? ⟨g, 2, none⟩ = some c :=
  ⟨(h.blk hm).cell 0, (h.blk hm).cell 1, (h.blk hm).cell 2⟩
theorem Loc.c0 {w W : World} {L : List (Nat × TypeId × Array Value)} {g : Nat} {t : TypeId} {a b c : Value} (h : Loc w L W) (hm : (g, t, #[a, b, c]) ∈ L) : W.cell? ⟨g, 0, none⟩ = some a := (h.blk hm).cell 0
theorem Loc.c1 {w W : World} {L : List (Nat × TypeId × Array Value)} {g : Nat} {t : TypeId} {a b c : Value} (h : Loc w L W) (hm : (g, t, #[a, b, c]) ∈ L) : W.cell? ⟨g, 1, none⟩ = some b := (h.blk hm).cell 1
theorem Loc.c2 {w W : World} {L : List (Nat × TypeId × Array Value)} {g : Nat} {t : TypeId} {a b c : Value} (h : Loc w L W) (hm : (g, t, #[a, b, c]) ∈ L) : W.cell? ⟨g, 2, none⟩ = some c := (h.blk hm).cell 2
theorem digs_ten {p : Nat} (hp : p ≤ 1000) : (Nt.digs (10 ^ p)).length ≤ 112 := by
  obtain ⟨k, hk⟩ : ∃ k, k = 112 := ⟨_, rfl⟩
  rw [← hk]
  refine Nt.digs_len ?_
  have h : (10 : Nat) ^ p < 10 ^ (9 * k) := Nat.pow_lt_pow_right (by decide) (by omega)
  rwa [Nat.pow_mul] at h
theorem digs_mul_le {a b k l : Nat} (ha : (Nt.digs a).length ≤ k) (hb : (Nt.digs b).length ≤ l) : (Nt.digs (a * b)).length ≤ k + l := by
  have h1 := Nt.val_lt (Nt.digs_canon a).1
  have h2 := Nt.val_lt (Nt.digs_canon b).1
  rw [Nt.val_digs] at h1 h2
  have h0 : 0 < Nt.B := by decide
  exact Nt.digs_len (mul_pow (Nat.lt_of_lt_of_le h1 (Nat.pow_le_pow_right h0 ha)) (Nat.lt_of_lt_of_le h2 (Nat.pow_le_pow_right h0 hb)))

set_option maxRecDepth 100000 in
set_option maxHeartbeats 2000000 in
theorem scaled_p (m : Bool) (n d p : Nat) (A1 : Option Addr) (c1 : Nat) (A2 : Option Addr) (c2 : Nat) (w : World) (h : Nv w (.slice A1 (Nt.digs n).length c1) (Nt.digs n)) (hp : p ≤ 900) (hn : (Nt.digs n).length ≤ 400000) :
    Calls Tryz.prog 191 #[.agg #[.bool m, .slice A1 (Nt.digs n).length c1, .slice A2 (Nt.digs d).length c2], .int .i64 (p : Int)] w fun e w' => ∃ B k, e = .returned (.agg #[.bool m, .slice B (Nt.digs (n * 10 ^ p)).length k, .slice A2 (Nt.digs d).length c2]) ∧ Nv w' (.slice B (Nt.digs (n * 10 ^ p)).length k) (Nt.digs (n * 10 ^ p)) ∧ Below w.heap.size w w' := by
  have hd := digs_ten (p := p) (by omega)
  have HTE := Lib.hid fun W => ten_any p W (by omega)
  have HTM := Lib.hid fun (W : World) (hb : Below w.heap.size w W) T ct (ht : Nv W (.slice T (Nt.digs (10 ^ p)).length ct) (Nt.digs (10 ^ p))) => times_o (.slice A1 (Nt.digs n).length c1) (.slice T (Nt.digs (10 ^ p)).length ct) n (10 ^ p) W (h.below hb) ht (by omega) (by omega)
  obtain ⟨D, hD⟩ : ∃ D, D = 10 ^ p := ⟨_, rfl⟩
  rw [← hD] at HTE HTM ⊢
  clear hD hd hn h
  have HL0 := Lib.hid (((Loc.start w).alloc' rfl 89 #[.bool m, .slice A1 (Nt.digs n).length c1, .slice A2 (Nt.digs d).length c2]).alloc' (g := w.heap.size + 1) (by simp) 89 #[.bool false, .slice none 0 0, .slice none 0 0])
  have hp' : (p : Int) ≤ 900 := by omega
  go_enter Tryz.func191, Tryz.ntmps191
  go_upto_region 3 with fail
  have i1 := HL0.out.drew.c1 (g := w.heap.size) (t := 89) (a := .bool m) (c := .slice A2 (Nt.digs d).length c2) (b := .slice A1 (Nt.digs n).length c1) (by simp)
  go_region_with (first
    | (go_at_call 52; (with_reducible refine (HTE.out _).mono ?_); rintro e w1 ⟨T, ct, rfl, ht, hb⟩; have HL1 := Lib.hid (HL0.out.drew.step hb); have i2 := HL1.out.c1 (g := w.heap.size) (t := 89) (a := .bool m) (c := .slice A2 (Nt.digs d).length c2) (b := .slice A1 (Nt.digs n).length c1) (by simp); have HTT := Lib.hid ht; clear ht hb)
    | (go_at_call 51; (with_reducible refine (HTM.out _ HL1.out.bel _ _ HTT.out).mono ?_); rintro e w2 ⟨B, k, rfl, hq, hb⟩; have hl := HL1.out.step hb; obtain ⟨x0, x1, x2, f0, f1, f2⟩ := (hl.blk (g := w.heap.size) (t := 89) (cs := #[.bool m, .slice A1 (Nt.digs n).length c1, .slice A2 (Nt.digs d).length c2]) (by simp)).three; obtain ⟨y0, y1, y2, g0, g1, g2⟩ := (hl.blk (g := w.heap.size + 1) (t := 89) (cs := #[.bool false, .slice none 0 0, .slice none 0 0]) (by simp)).three; have HL2 := Lib.hid hl; have HQ := Lib.hid hq; clear hq hb hl) | fail)
  all_goals
    have bz := HL2.out.blk (g := w.heap.size) (t := 89) (cs := #[.bool m, .slice A1 (Nt.digs n).length c1, .slice A2 (Nt.digs d).length c2]) (by simp)
    have HS := (HL2.out.perm (L' := [(w.heap.size, 89, #[.bool m, .slice A1 (Nt.digs n).length c1, .slice A2 (Nt.digs d).length c2]), (w.heap.size + 1, 89, #[.bool false, .slice none 0 0, .slice none 0 0])]) (by simp)).set1 (i := 1) (by simp) (.slice B (Nt.digs (n * D)).length k)
    have bA : Blk _ w.heap.size 89 #[.bool m, .slice B (Nt.digs (n * D)).length k, .slice A2 (Nt.digs d).length c2] := HS.blk (List.mem_cons_self ..)
    have bB := HS.blk (g := w.heap.size + 1) (t := 89) (cs := #[.bool false, .slice none 0 0, .slice none 0 0]) (by simp)
    have HV := Lib.hid ((HQ.out.apart1 (i := 1) bz (.slice B (Nt.digs (n * D)).length k)).apart bB (.bool m) (.slice B (Nt.digs (n * D)).length k) (.slice A2 (Nt.digs d).length c2))
    have HB := Lib.hid bB
    have HBE := Lib.hid HS.bel
    clear x0 x1 x2 f0 f1 f2 y0 y1 y2 g0 g1 g2
    obtain ⟨x0, x1, x2, -, -, -⟩ := bA.three
    obtain ⟨y0, y1, y2, g0, g1, g2⟩ := bB.three
    clear bz HS bA bB
    go_wp2_with fail
    obtain ⟨-, q0, q1, q2⟩ := HB.out.three_set (.bool m) (.slice B (Nt.digs (n * D)).length k) (.slice A2 (Nt.digs d).length c2)
    refine bodyPost_ret (v := .agg #[.bool m, .slice B (Nt.digs (n * D)).length k, .slice A2 (Nt.digs d).length c2]) (by simp [results, Tryz.results191, go_sem, q0, q1, q2]) rfl ?_
    exact ⟨B, k, rfl, HV.out, below_three HBE.out (by omega) _ _ _⟩

set_option maxRecDepth 100000 in
set_option maxHeartbeats 2000000 in
theorem scaled_m (m : Bool) (n d p : Nat) (A1 : Option Addr) (c1 : Nat) (A2 : Option Addr) (c2 : Nat) (w : World) (h : Nv w (.slice A2 (Nt.digs d).length c2) (Nt.digs d)) (hp : p ≤ 900) (hn : (Nt.digs d).length ≤ 400000) :
    Calls Tryz.prog 191 #[.agg #[.bool m, .slice A1 (Nt.digs n).length c1, .slice A2 (Nt.digs d).length c2], .int .i64 (-((p + 1 : Nat) : Int))] w fun e w' => ∃ B k, e = .returned (.agg #[.bool m, .slice A1 (Nt.digs n).length c1, .slice B (Nt.digs (d * 10 ^ (p + 1))).length k]) ∧ Nv w' (.slice B (Nt.digs (d * 10 ^ (p + 1))).length k) (Nt.digs (d * 10 ^ (p + 1))) ∧ Below w.heap.size w w' := by
  have hd := digs_ten (p := (p + 1)) (by omega)
  have hwr : IntKind.i64.wrap ((p : Int) + 1) = ((p + 1 : Nat) : Int) := (IntWalk.i64_in _ (by omega)).trans (by omega)
  have HTE := Lib.hid (show ∀ W, Calls Tryz.prog 52 #[.int .i64 (IntKind.i64.wrap ((p : Int) + 1))] W _ from fun W => by rw [hwr]; exact ten_any (p + 1) W (by omega))
  clear hwr
  have HTM := Lib.hid fun (W : World) (hb : Below w.heap.size w W) T ct (ht : Nv W (.slice T (Nt.digs (10 ^ (p + 1))).length ct) (Nt.digs (10 ^ (p + 1)))) => times_o (.slice A2 (Nt.digs d).length c2) (.slice T (Nt.digs (10 ^ (p + 1))).length ct) d (10 ^ (p + 1)) W (h.below hb) ht (by omega) (by omega)
  obtain ⟨D, hD⟩ : ∃ D, D = 10 ^ (p + 1) := ⟨_, rfl⟩
  rw [← hD] at HTE HTM ⊢
  clear hD hd hn h
  have HL0 := Lib.hid (((Loc.start w).alloc' rfl 89 #[.bool m, .slice A1 (Nt.digs n).length c1, .slice A2 (Nt.digs d).length c2]).alloc' (g := w.heap.size + 1) (by simp) 89 #[.bool false, .slice none 0 0, .slice none 0 0])
  have hp' : (p : Int) ≤ 900 := by omega
  go_enter Tryz.func191, Tryz.ntmps191
  go_upto_region 2 with fail
  have i1 := HL0.out.drew.c2 (g := w.heap.size) (t := 89) (a := .bool m) (b := .slice A1 (Nt.digs n).length c1) (c := .slice A2 (Nt.digs d).length c2) (by simp)
  go_region_with (first
    | (go_at_call 52; (with_reducible refine (HTE.out _).mono ?_); rintro e w1 ⟨T, ct, rfl, ht, hb⟩; have HL1 := Lib.hid (HL0.out.drew.step hb); have i2 := HL1.out.c2 (g := w.heap.size) (t := 89) (a := .bool m) (b := .slice A1 (Nt.digs n).length c1) (c := .slice A2 (Nt.digs d).length c2) (by simp); have HTT := Lib.hid ht; clear ht hb)
    | (go_at_call 51; (with_reducible refine (HTM.out _ HL1.out.bel _ _ HTT.out).mono ?_); rintro e w2 ⟨B, k, rfl, hq, hb⟩; have hl := HL1.out.step hb; obtain ⟨x0, x1, x2, f0, f1, f2⟩ := (hl.blk (g := w.heap.size) (t := 89) (cs := #[.bool m, .slice A1 (Nt.digs n).length c1, .slice A2 (Nt.digs d).length c2]) (by simp)).three; obtain ⟨y0, y1, y2, g0, g1, g2⟩ := (hl.blk (g := w.heap.size + 1) (t := 89) (cs := #[.bool false, .slice none 0 0, .slice none 0 0]) (by simp)).three; have HL2 := Lib.hid hl; have HQ := Lib.hid hq; clear hq hb hl) | fail)
  all_goals
    have bz := HL2.out.blk (g := w.heap.size) (t := 89) (cs := #[.bool m, .slice A1 (Nt.digs n).length c1, .slice A2 (Nt.digs d).length c2]) (by simp)
    have HS := (HL2.out.perm (L' := [(w.heap.size, 89, #[.bool m, .slice A1 (Nt.digs n).length c1, .slice A2 (Nt.digs d).length c2]), (w.heap.size + 1, 89, #[.bool false, .slice none 0 0, .slice none 0 0])]) (by simp)).set1 (i := 2) (by simp) (.slice B (Nt.digs (d * D)).length k)
    have bA : Blk _ w.heap.size 89 #[.bool m, .slice A1 (Nt.digs n).length c1, .slice B (Nt.digs (d * D)).length k] := HS.blk (List.mem_cons_self ..)
    have bB := HS.blk (g := w.heap.size + 1) (t := 89) (cs := #[.bool false, .slice none 0 0, .slice none 0 0]) (by simp)
    have HV := Lib.hid ((HQ.out.apart1 (i := 2) bz (.slice B (Nt.digs (d * D)).length k)).apart bB (.bool m) (.slice A1 (Nt.digs n).length c1) (.slice B (Nt.digs (d * D)).length k))
    have HB := Lib.hid bB
    have HBE := Lib.hid HS.bel
    clear x0 x1 x2 f0 f1 f2 y0 y1 y2 g0 g1 g2
    obtain ⟨x0, x1, x2, -, -, -⟩ := bA.three
    obtain ⟨y0, y1, y2, g0, g1, g2⟩ := bB.three
    clear bz HS bA bB
    go_wp2_with fail
    obtain ⟨-, q0, q1, q2⟩ := HB.out.three_set (.bool m) (.slice A1 (Nt.digs n).length c1) (.slice B (Nt.digs (d * D)).length k)
    refine bodyPost_ret (v := .agg #[.bool m, .slice A1 (Nt.digs n).length c1, .slice B (Nt.digs (d * D)).length k]) (by simp [results, Tryz.results191, go_sem, q0, q1, q2]) rfl ?_
    exact ⟨B, k, rfl, HV.out, below_three HBE.out (by omega) _ _ _⟩
end Go.Proofs.YtmmlcponmdalmaaGreatDoor
