/- The contracts of exact's rounded. -/
import Derived.Test.YtmmlcponmdalmaaGreatDoorExM
namespace Go.Proofs.YtmmlcponmdalmaaGreatDoor
open Go.RowKit

/-- The nearest whole number's digits. -/
def Nt.rnd (n d : Nat) : Nat := (n + n + d) / (d + d)

set_option maxRecDepth 100000 in
set_option maxHeartbeats 4000000 in
theorem rounded_o (m : Bool) (n d : Nat) (A1 : Option Addr) (c1 : Nat) (A2 : Option Addr) (c2 : Nat) (w : World) (h1 : Nv w (.slice A1 (Nt.digs n).length c1) (Nt.digs n)) (h2 : Nv w (.slice A2 (Nt.digs d).length c2) (Nt.digs d)) (hn : (Nt.digs n).length ≤ 400000) (hd : (Nt.digs d).length ≤ 400000) (h0 : d ≠ 0) :
    Calls Tryz.prog 192 #[.agg #[.bool m, .slice A1 (Nt.digs n).length c1, .slice A2 (Nt.digs d).length c2]] w fun e w' => ∃ B k B' k', e = .returned (.agg #[.bool m, .slice B (Nt.digs (Nt.rnd n d)).length k, .slice B' (Nt.digs 1).length k']) ∧ Nv w' (.slice B (Nt.digs (Nt.rnd n d)).length k) (Nt.digs (Nt.rnd n d)) ∧ Nv w' (.slice B' (Nt.digs 1).length k') (Nt.digs 1) ∧ Below w.heap.size w w' := by
  have hnn : (Nt.digs (n + n)).length ≤ 400001 := digs_add_le hn hn (Nat.le_refl _)
  have hdd : (Nt.digs (d + d)).length ≤ 400001 := digs_add_le hd hd (Nat.le_refl _)
  have hs : (Nt.digs (n + n + d)).length ≤ 400002 := digs_add_le hnn (Nat.le_trans hd (by omega)) (Nat.le_refl _)
  have HP1 := Lib.hid fun (W : World) (h : Nv W (.slice A1 (Nt.digs n).length c1) (Nt.digs n)) => plus_o _ _ n n W h h (by omega) (by omega)
  have HP2 := Lib.hid fun (W : World) B k (h : Nv W (.slice B (Nt.digs (n + n)).length k) (Nt.digs (n + n))) (h' : Nv W (.slice A2 (Nt.digs d).length c2) (Nt.digs d)) => plus_o _ _ (n + n) d W h h' (by omega) (by omega)
  have HP3 := Lib.hid fun (W : World) (h : Nv W (.slice A2 (Nt.digs d).length c2) (Nt.digs d)) => plus_o _ _ d d W h h (by omega) (by omega)
  have HDV := Lib.hid fun (W : World) B k B' k' (h : Nv W (.slice B (Nt.digs (n + n + d)).length k) (Nt.digs (n + n + d))) (h' : Nv W (.slice B' (Nt.digs (d + d)).length k') (Nt.digs (d + d))) => divide_o _ _ (n + n + d) (d + d) W h h' (by omega) (by omega) (by omega)
  have hr : Nt.rnd n d = (n + n + d) / (d + d) := rfl
  rw [hr]
  clear hr hnn hdd hs hn hd h0
  obtain ⟨s1, q1⟩ : ∃ s1, s1 = n + n := ⟨_, rfl⟩
  rw [← q1] at HP1 HP2 HDV ⊢
  obtain ⟨s2, q2⟩ : ∃ s2, s2 = s1 + d := ⟨_, rfl⟩
  rw [← q2] at HP2 HDV ⊢
  obtain ⟨s3, q3⟩ : ∃ s3, s3 = d + d := ⟨_, rfl⟩
  rw [← q3] at HP3 HDV ⊢
  clear q1 q2 q3
  have HL := Lib.hid (((Loc.start w).alloc' rfl 89 #[.bool m, .slice A1 (Nt.digs n).length c1, .slice A2 (Nt.digs d).length c2]).alloc' (g := w.heap.size + 1) (by simp) 89 #[.bool false, .slice none 0 0, .slice none 0 0])
  have HN := Lib.hid (h1.below HL.out.bel)
  have HD := Lib.hid (h2.below HL.out.bel)
  clear h1 h2
  go_enter Tryz.func192, Tryz.ntmps192
  go_upto_region 1 with fail
  obtain ⟨x0, x1, x2, -, -, -⟩ := (HL.out.blk (g := w.heap.size) (t := 89) (cs := #[.bool m, .slice A1 (Nt.digs n).length c1, .slice A2 (Nt.digs d).length c2]) (by simp)).three
  clear x0
  have HL' := Lib.hid HL.out.drew
  have HN' := Lib.hid HN.out.drew
  have HD' := Lib.hid HD.out.drew
  clear HL HN HD
  rename Hid _ => HD
  rename Hid (Nv _ (.slice A1 _ _) _) => HN
  rename Hid (Loc _ _ _) => HL
  go_region_held3 (fun w' => w'.cell? ⟨w.heap.size, 1, none⟩ = some (.slice A1 (Nt.digs n).length c1) ∧ w'.cell? ⟨w.heap.size, 2, none⟩ = some (.slice A2 (Nt.digs d).length c2)) (first | exact ⟨by assumption, by assumption⟩ | exact ⟨HL.out.c1 (t := 89) (a := .bool m) (c := .slice A2 (Nt.digs d).length c2) (by simp), HL.out.c2 (t := 89) (a := .bool m) (b := .slice A1 (Nt.digs n).length c1) (by simp)⟩ | exact ⟨HL.out.drew.c1 (t := 89) (a := .bool m) (c := .slice A2 (Nt.digs d).length c2) (by simp), HL.out.drew.c2 (t := 89) (a := .bool m) (b := .slice A1 (Nt.digs n).length c1) (by simp)⟩ | fail) (first
    | (go_at_call 98; first
      | ((with_reducible refine (HP1.out _ HN.out).mono ?_); rintro e w2 ⟨B1, k1, rfl, hq, hb⟩; have H1 := Lib.hid hq; clear hq;  (try (have hx := HN.out.below hb; clear HN; have HN := Lib.hid hx; clear hx)); (try (have hx := HD.out.below hb; clear HD; have HD := Lib.hid hx; clear hx)); (try (have hx := H2.out.below hb; clear H2; have H2 := Lib.hid hx; clear hx)); (try (have hx := H3.out.below hb; clear H3; have H3 := Lib.hid hx; clear hx)); have hl := HL.out.step hb; clear HL; have HL := Lib.hid hl; clear hl hb)
      | ((with_reducible refine (HP3.out _ HD.out).mono ?_); rintro e w3 ⟨B3, k3, rfl, hq, hb⟩; have H3 := Lib.hid hq; clear hq;  (try (have hx := HN.out.below hb; clear HN; have HN := Lib.hid hx; clear hx)); (try (have hx := HD.out.below hb; clear HD; have HD := Lib.hid hx; clear hx)); (try (have hx := H2.out.below hb; clear H2; have H2 := Lib.hid hx; clear hx)); (try (have hx := H1.out.below hb; clear H1; have H1 := Lib.hid hx; clear hx)); have hl := HL.out.step hb; clear HL; have HL := Lib.hid hl; clear hl hb)
      | ((with_reducible refine (HP2.out _ _ _ H1.out HD.out).mono ?_); rintro e w4 ⟨B2, k2, rfl, hq, hb⟩; have H2 := Lib.hid hq; clear hq;  (try (have hx := HN.out.below hb; clear HN; have HN := Lib.hid hx; clear hx)); (try (have hx := HD.out.below hb; clear HD; have HD := Lib.hid hx; clear hx)); (try (have hx := H1.out.below hb; clear H1; have H1 := Lib.hid hx; clear hx)); (try (have hx := H3.out.below hb; clear H3; have H3 := Lib.hid hx; clear hx)); have hl := HL.out.step hb; clear HL; have HL := Lib.hid hl; clear hl hb) | fail)
    | (go_at_call 48; (with_reducible refine (HDV.out _ _ _ _ _ H2.out H3.out).mono ?_); rintro e w5 ⟨B4, k4, B5, k5, rfl, hq, -, hb⟩; have HQ := Lib.hid hq; have hl := HL.out.step hb; clear HL; have HL := Lib.hid hl; clear hq hl hb) | fail)
  all_goals
    have bA := HL.out.blk (g := w.heap.size) (t := 89) (cs := #[.bool m, .slice A1 (Nt.digs n).length c1, .slice A2 (Nt.digs d).length c2]) (by simp)
    have bB := HL.out.blk (g := w.heap.size + 1) (t := 89) (cs := #[.bool false, .slice none 0 0, .slice none 0 0]) (by simp)
    obtain ⟨x0, x1, x2, -, -, -⟩ := bA.three
    obtain ⟨y0, y1, y2, g0, g1, g2⟩ := bB.three
    have LT := Lib.hid bB.lt
    have hlt := bB.lt
    have HB := Lib.hid bB
    clear x1 x2 bA bB
    go_wp2_with fail
    obtain ⟨bS, -, -, -⟩ := HB.out.three_set (.bool m) (.slice B4 (Nt.digs (s2 / s3)).length k4) (.slice (some ⟨w5.heap.size, 0, none⟩) 1 1)
    obtain ⟨q0, q1, q2, -, -, -⟩ := (bS.alloc (.cells #[.int .u32 1] 100)).three
    have hQ := HQ.out.apart HB.out (.bool m) (.slice B4 (Nt.digs (s2 / s3)).length k4) (.slice (some ⟨w5.heap.size, 0, none⟩) 1 1)
    have hE := below_three (g := w.heap.size + 1) HL.out.bel (by omega) (.bool m) (.slice B4 (Nt.digs (s2 / s3)).length k4) (.slice (some ⟨w5.heap.size, 0, none⟩) 1 1)
    refine bodyPost_ret (v := .agg #[.bool m, .slice B4 (Nt.digs (s2 / s3)).length k4, .slice (some ⟨w5.heap.size, 0, none⟩) 1 1]) (by simp only [results, Tryz.results192]; simp [go_sem, q0, q1, q2]) rfl ?_
    have hz : (((w5.setCell ⟨w.heap.size + 1, 0, none⟩ (.bool m)).setCell ⟨w.heap.size + 1, 1, none⟩ (.slice B4 (Nt.digs (s2 / s3)).length k4)).setCell ⟨w.heap.size + 1, 2, none⟩ (.slice (some ⟨w5.heap.size, 0, none⟩) 1 1)).heap.size = w5.heap.size := by simp [World.setCell]
    obtain ⟨X, hX⟩ : ∃ X, X = (((w5.setCell ⟨w.heap.size + 1, 0, none⟩ (.bool m)).setCell ⟨w.heap.size + 1, 1, none⟩ (.slice B4 (Nt.digs (s2 / s3)).length k4)).setCell ⟨w.heap.size + 1, 2, none⟩ (.slice (some ⟨w5.heap.size, 0, none⟩) 1 1)) := ⟨_, rfl⟩
    rw [← hX] at hQ hE hz ⊢
    have hv := nv_lit X 1 (by decide) (by decide) 1 rfl
    rw [hz] at hv
    refine ⟨B4, k4, some ⟨w5.heap.size, 0, none⟩, 1, by rw [digs_one]; rfl, hQ.below ((Below.refl _ X).alloc (Nat.le_refl _) _), ?_, hE.alloc (by have := HL.out.bel.size; omega) _⟩
    rw [digs_one] at hv ⊢
    exact hv
end Go.Proofs.YtmmlcponmdalmaaGreatDoor

