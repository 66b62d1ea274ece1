/- pivot.key, keys; slices.BinarySearchFunc of keys. -/
import Derived.Test.YtmapagbmihpbmaaGreatDoorGq
import Derived.Test.YtmapagbmihpbmaaGreatDoorPvF
set_option linter.unusedSimpArgs false
set_option linter.unusedVariables false
namespace Go.Proofs.YtmapagbmihpbmaaGreatDoor
open Go.RowKit

/-- The array of records as it lies in memory. -/
structure Src (W : World) (v : Vl) (us : List Vl) (R : Nat) : Prop where
  cols : v.cols = 3
  rows : v.rows = (R : Int) + 1
  r1 : 1 ≤ R
  r2 : R ≤ 14
  len : us.length = (R + 1) * 3
  n : v.n = us.length
  rd : Reads 9 csV W (.slice v.A v.n v.c) us
  ok : ∀ u ∈ us, u.ok ∧ u.sz
theorem Src.below {w W : World} {v : Vl} {us : List Vl} {R : Nat} (h : Src w v us R) (hb : Below w.heap.size w W) : Src W v us R := ⟨h.cols, h.rows, h.r1, h.r2, h.len, h.n, h.rd.below hb, h.ok⟩
theorem Src.mem {w : World} {v : Vl} {us : List Vl} {R : Nat} (h : Src w v us R) {i : Nat} (hi : i < (R + 1) * 3) : us[i]! ∈ us := by
  rw [getElem!_pos us i (by rw [h.len]; exact hi)]; exact List.getElem_mem _
/-- The cells of the items. -/
theorem Src.at {w : World} {v : Vl} {us : List Vl} {R : Nat} (h : Src w v us R) : ∃ b o, v.A = some ⟨b, o, none⟩ ∧ b < w.heap.size ∧ ∀ i, i < (R + 1) * 3 → ∀ j, j < 9 → w.cell? ⟨b, o + i * 9 + j, none⟩ = (us[i]!.cs)[j]? := by
  obtain ⟨A', c', e, -, -, h3⟩ := h.rd
  injection e with e1 e2 e3
  obtain ⟨b, o, e4, hb, hc⟩ := h3 (by rw [h.len]; omega)
  refine ⟨b, o, e1.trans e4, hb, fun i hi j hj => ?_⟩
  have hi' : i < us.length := by rw [h.len]; exact hi
  have := hc i hi' j hj
  rw [← Nat.add_assoc] at this
  rw [this, getElem!_pos us i hi']
  simp [csV]
set_option maxRecDepth 100000 in
set_option maxHeartbeats 4000000 in
theorem key_any (v : Vl) (us : List Vl) (R i col : Nat) (bc oc cc : Nat) (w : World) (hs : Src w v us R) (h1 : i ≤ R) (h2 : col < 3) (hc : w.cell? ⟨bc, oc, none⟩ = some (.int .i64 (col : Int))) :
    Calls Tryz.prog 39 #[v.v, .int .i64 (i : Int), .slice (some ⟨bc, oc, none⟩) 1 cc] w fun e w' => ∃ x : SV, e = .returned (sv3 x) ∧ KO w' w.heap.size x us[i * 3 + col]! ∧ Below w.heap.size w w' := by
  obtain ⟨b, o, hA, hbl, hcell⟩ := hs.at
  have hcols := hs.cols
  have hn : v.n = (R + 1) * 3 := hs.n.trans hs.len
  have r2 := hs.r2
  have hi : i * 3 + col < (R + 1) * 3 := by omega
  obtain ⟨u, hu⟩ : ∃ u, u = us[i * 3 + col]! := ⟨_, rfl⟩
  have hce : ∀ j, j < 9 → w.cell? ⟨b, o + (i * 3 + col) * 9 + j, none⟩ = (u.cs)[j]? := fun j hj => by rw [hu]; exact hcell _ hi j hj
  rw [← hu]
  clear hu hcell hs
  obtain ⟨k, num, den, text, on, code, rows, cols, A, n, c⟩ := v
  dsimp only at hA hcols hn
  subst hA hcols hn
  obtain ⟨uk, unum, uden, utext, uon, ucode, urows, ucols, uA, un, uc⟩ := u
  have g0 : w.cell? ⟨b, o + (i * 3 + col) * 9, none⟩ = some (.int .i64 uk) := hce 0 (by decide)
  have g1 : w.cell? ⟨b, o + (i * 3 + col) * 9 + 1, none⟩ = some (.string unum) := hce 1 (by decide)
  have g2 : w.cell? ⟨b, o + (i * 3 + col) * 9 + 2, none⟩ = some (.string uden) := hce 2 (by decide)
  have g3 : w.cell? ⟨b, o + (i * 3 + col) * 9 + 3, none⟩ = some (.string utext) := hce 3 (by decide)
  have g4 : w.cell? ⟨b, o + (i * 3 + col) * 9 + 4, none⟩ = some (.bool uon) := hce 4 (by decide)
  have g5 : w.cell? ⟨b, o + (i * 3 + col) * 9 + 5, none⟩ = some (.int .i64 ucode) := hce 5 (by decide)
  have g6 : w.cell? ⟨b, o + (i * 3 + col) * 9 + 6, none⟩ = some (.int .i64 urows) := hce 6 (by decide)
  have g7 : w.cell? ⟨b, o + (i * 3 + col) * 9 + 7, none⟩ = some (.int .i64 ucols) := hce 7 (by decide)
  have g8 : w.cell? ⟨b, o + (i * 3 + col) * 9 + 8, none⟩ = some (.slice uA un uc) := hce 8 (by decide)
  clear hce
  have z4 : ((i : Int) * 3 + (col : Int)).toNat = i * 3 + col := by omega
  have z5 : (i : Int) * 3 + (col : Int) < (((R + 1) * 3 : Nat) : Int) := by omega
  have z6 : (0 : Int) ≤ (i : Int) * 3 + (col : Int) := by omega
  have HL0 := Lib.hid ((Loc.start w).alloc' rfl 27 #[.int .i64 k, .string num, .string den, .string text, .bool on, .int .i64 code, .int .i64 rows, .int .i64 3, .slice (some ⟨b, o, none⟩) ((R + 1) * 3) c])
  have bbc : bc < w.heap.size := World.block_lt_of_cell? _ _ hc
  have bbl : b < w.heap.size := hbl
  have HG := Lib.hid (show ∀ W, Below w.heap.size w W → W.cell? ⟨bc, oc, none⟩ = some (.int .i64 (col : Int)) ∧ W.cell? ⟨b, o + (i * 3 + col) * 9, none⟩ = some (.int .i64 uk) ∧ W.cell? ⟨b, o + (i * 3 + col) * 9 + 1, none⟩ = some (.string unum) ∧ W.cell? ⟨b, o + (i * 3 + col) * 9 + 2, none⟩ = some (.string uden) ∧ W.cell? ⟨b, o + (i * 3 + col) * 9 + 3, none⟩ = some (.string utext) ∧ W.cell? ⟨b, o + (i * 3 + col) * 9 + 4, none⟩ = some (.bool uon) ∧ W.cell? ⟨b, o + (i * 3 + col) * 9 + 5, none⟩ = some (.int .i64 ucode) ∧ W.cell? ⟨b, o + (i * 3 + col) * 9 + 6, none⟩ = some (.int .i64 urows) ∧ W.cell? ⟨b, o + (i * 3 + col) * 9 + 7, none⟩ = some (.int .i64 ucols) ∧ W.cell? ⟨b, o + (i * 3 + col) * 9 + 8, none⟩ = some (.slice uA un uc) from fun W hW => ⟨(hW.cell (p := ⟨bc, oc, none⟩) bbc).trans hc, (hW.cell (by exact bbl)).trans g0, (hW.cell (by exact bbl)).trans g1, (hW.cell (by exact bbl)).trans g2, (hW.cell (by exact bbl)).trans g3, (hW.cell (by exact bbl)).trans g4, (hW.cell (by exact bbl)).trans g5, (hW.cell (by exact bbl)).trans g6, (hW.cell (by exact bbl)).trans g7, (hW.cell (by exact bbl)).trans g8⟩)
  clear g0 g1 g2 g3 g4 g5 g6 g7 g8 hc
  show Calls Tryz.prog 39 #[.agg #[.int .i64 k, .string num, .string den, .string text, .bool on, .int .i64 code, .int .i64 rows, .int .i64 3, .slice (some ⟨b, o, none⟩) ((R + 1) * 3) c], .int .i64 (i : Int), .slice (some ⟨bc, oc, none⟩) 1 cc] w _
  go_enter Tryz.func39, Tryz.ntmps39
  go_wp2_with fail
  go_loopw [7, 12] (fun u7 u12 wr => (u12 = .int .i64 0 ∧ u7 = .slice none 0 0 ∧ Hid (Loc w [(w.heap.size, 27, #[.int .i64 k, .string num, .string den, .string text, .bool on, .int .i64 code, .int .i64 rows, .int .i64 3, .slice (some ⟨b, o, none⟩) ((R + 1) * 3) c])] wr)) ∨ (u12 = .int .i64 1 ∧ ∃ (gx cx : Nat), u7 = .slice (some ⟨gx, 0, none⟩) 1 cx ∧ Hid (KO wr w.heap.size (some ⟨gx, 0, none⟩, 1, cx) ⟨uk, unum, uden, utext, uon, ucode, urows, ucols, uA, un, uc⟩) ∧ Hid (Below w.heap.size w wr))) (fun _ u _ => 1 - (intOf u).toNat)
  case atStart => exact .inl ⟨rfl, rfl, HL0⟩
  case round =>
    clear HL0
    rcases hrel with ⟨rfl, rfl, HL⟩ | ⟨rfl, gx, cx, rfl, HK, HB⟩
    · obtain ⟨hc, g0, g1, g2, g3, g4, g5, g6, g7, g8⟩ := HG.out wr HL.out.bel
      have k7 := (HL.out.blk (List.mem_singleton.2 rfl)).cell 7
      have k8 := (HL.out.blk (List.mem_singleton.2 rfl)).cell 8
      simp only [List.getElem?_toArray, List.getElem?_cons_succ, List.getElem?_cons_zero] at k7 k8
      have HB0 := Lib.hid HL.out.bel
      have HSZ := Lib.hid HL.out.bel.size
      go_wp2_with (at_builtin; go_loud (refine wp_row1 25 27 9 112 csV _ Tryz.underlying25 val_info rfl (by decide) csV_one rfl _ _ rfl w.heap.size _ [] rfl (RowOf.nil wr _) ⟨uk, unum, uden, utext, uon, ucode, urows, ucols, uA, un, uc⟩ _ ?_ rfl (by decide) (by decide) HSZ.out ?_); (rfl); intro v3 w3 ho hb hg; obtain ⟨gx, cx, rfl, -, -⟩ := RowOf.form ho (by simp); have HO := Lib.hid ho; have HB1 := Lib.hid (HB0.out.trans hb); clear ho hb hg)
      go_roundw
      case rel => exact .inr ⟨by go_num, gx, cx, rfl, HO, HB1⟩
      case measure => simp [intOf]
    · go_wp2_with fail
      go_ret
      exact ⟨(some ⟨gx, 0, none⟩, 1, cx), rfl, HK.out, HB.out⟩
set_option maxRecDepth 100000 in
set_option maxHeartbeats 4000000 in
theorem bsearch_any (A : Option Addr) (n c : Nat) (K : List Vl) (t : SV) (u : Vl) (w : World) (he : VEnv w) (hK : KRows w (.slice A n c) K) (h1 : 1 ≤ n) (h2 : n ≤ 100000) (hok : ∀ x ∈ K, x.ok ∧ x.sz) (ht : KR w t u) (hu : u.ok) (su : u.sz) :
    Calls Tryz.prog 38 #[.slice A n c, sv3 t, .func (.func 40) #[] #[]] w fun e w' => (∃ b, e = .returned (.tuple #[.int .i64 (placeP K u : Nat), .bool b])) ∧ Below w.heap.size w w' := by
  obtain ⟨hn, hget⟩ := hK.get
  obtain ⟨b, o, rfl, hbl, hrow⟩ := hget h1
  obtain ⟨t1, t2, t3⟩ := t
  have HC := Lib.hid (show ∀ i, i < n → ∃ (X : Option Addr) (l q : Nat), (∀ W, Below w.heap.size w W → W.cell? ⟨b, o + i, none⟩ = some (.slice X l q)) ∧ ∀ W, Below w.heap.size w W → Calls Tryz.prog 40 #[.slice X l q, .slice t1 t2 t3] W fun e w' => e = .returned (.int .i64 (ordV K[i]! u)) ∧ Below W.heap.size W w' from fun i hi => by
    obtain ⟨⟨X, l, q⟩, hx1, hx2⟩ := hrow i (by omega)
    have hm : K[i]! ∈ K := by rw [getElem!_pos K i (by omega)]; exact List.getElem_mem _
    exact ⟨X, l, q, fun W hW => (hW.cell (p := ⟨b, o + i, none⟩) hbl).trans hx1, fun W hW => keycmp_any (X, l, q) (t1, t2, t3) _ u W (he.below hW) (hx2.below hW) (ht.below hW) (hok _ hm).1 hu (hok _ hm).2 su⟩)
  obtain ⟨p, hp⟩ : ∃ p : Nat → Bool, p = fun h => decide (ordV K[h]! u < 0) := ⟨_, rfl⟩
  have HP := Lib.hid (show ∀ i, p i = decide (ordV K[i]! u < 0) from fun i => by rw [hp])
  obtain ⟨RT, hRT⟩ : ∃ RT, RT = placeP K u := ⟨_, rfl⟩
  have HRT := Lib.hid (show Sq.bs p 0 n = RT by rw [hRT, hp, ← hn]; rfl)
  have hB0 := Below.refl w.heap.size w
  have HB0 := Lib.hid hB0
  rw [← hRT]
  clear hK hget hrow hok ht hu su he hp hRT hn hB0
  show Calls Tryz.prog 38 #[.slice (some ⟨b, o, none⟩) n c, .slice t1 t2 t3, .func (.func 40) #[] #[]] w _
  go_enter Tryz.func38, Tryz.ntmps38
  go_wp2_with fail
  go_loopw [9, 10] (fun u9 u10 wr => ∃ lo hi : Nat, u9 = .int .i64 lo ∧ u10 = .int .i64 hi ∧ lo ≤ hi ∧ hi ≤ n ∧ Hid (Sq.bs p lo hi = RT) ∧ Hid (Below w.heap.size w wr)) (fun u9 u10 _ => (intOf u10).toNat - (intOf u9).toNat)
  case atStart => exact ⟨0, n, rfl, rfl, by omega, by omega, HRT, HB0⟩
  case round =>
    clear HRT HB0
    obtain ⟨lo, hi, rfl, rfl, h3, h4, HS, HB⟩ := hrel
    by_cases hlt : lo < hi
    · obtain ⟨X, l, q, hx1, hx2⟩ := HC.out ((lo + hi) / 2) (by omega)
      have c0 := hx1 wr HB.out
      have HX := Lib.hid hx2
      have hpp := HP.out ((lo + hi) / 2)
      obtain ⟨z, hz⟩ : ∃ z, z = ordV K[(lo + hi) / 2]! u := ⟨_, rfl⟩
      rw [← hz] at hpp HX
      have hbs := HS.out
      rw [Sq.bs, if_pos hlt, hpp] at hbs
      clear hx1 hx2 hz hpp
      by_cases hz : z < 0
      · rw [if_pos (by simp [hz])] at hbs
        have HS2 := Lib.hid hbs
        clear hbs
        go_wp2_with (go_at_call 40; (with_reducible refine (HX.out _ HB.out).mono ?_); rintro e w1 ⟨rfl, hb⟩; have HB1 := Lib.hid (below_tr HB.out hb); clear hb)
        go_roundw
        case rel => exact ⟨(lo + hi) / 2 + 1, hi, by rw [show ((lo : Int) + (hi : Int)) / 2 + 1 = (((lo + hi) / 2 + 1 : Nat) : Int) by omega], rfl, by omega, h4, HS2, HB1⟩
        case measure => simp [intOf]; omega
      · rw [if_neg (by simp [hz])] at hbs
        have HS2 := Lib.hid hbs
        clear hbs
        go_wp2_with (go_at_call 40; (with_reducible refine (HX.out _ HB.out).mono ?_); rintro e w1 ⟨rfl, hb⟩; have HB1 := Lib.hid (below_tr HB.out hb); clear hb)
        go_roundw
        case rel => exact ⟨lo, (lo + hi) / 2, rfl, by rw [show ((lo : Int) + (hi : Int)) / 2 = (((lo + hi) / 2 : Nat) : Int) by omega], by omega, by omega, HS2, HB1⟩
        case measure => simp [intOf]; omega
    · obtain rfl : lo = hi := by omega
      have hbs := HS.out
      rw [Sq.bs, if_neg (Nat.lt_irrefl _)] at hbs
      subst hbs
      by_cases hn : lo < n
      · obtain ⟨X, l, q, hx1, hx2⟩ := HC.out lo hn
        have c0 := hx1 wr HB.out
        have HX := Lib.hid hx2
        obtain ⟨z, hz⟩ : ∃ z, z = ordV K[lo]! u := ⟨_, rfl⟩
        rw [← hz] at HX
        clear hx1 hx2 hz
        go_wp2_with (go_at_call 40; (with_reducible refine (HX.out _ HB.out).mono ?_); rintro e w1 ⟨rfl, hb⟩; have HB1 := Lib.hid (below_tr HB.out hb); clear hb)
        go_ret2
        exact ⟨⟨_, rfl⟩, HB1.out⟩
      · go_wp2_with fail
        go_ret2
        exact ⟨⟨_, rfl⟩, HB.out⟩
end Go.Proofs.YtmapagbmihpbmaaGreatDoor

namespace Go.Proofs.YtmapagbmihpbmaaGreatDoor
open Go.RowKit

theorem zip_ex {α β : Type} {R : α → β → Prop} {l : List α} {m : List β} (h : All2 R l m) : ∃ p : List (α × β), p.map Prod.fst = l ∧ p.map Prod.snd = m ∧ ∀ x ∈ p, R x.1 x.2 := h.zip
theorem all2_map {α β γ : Type} {R : α → β → Prop} {f : γ → α} {k : γ → β} (l : List γ) (h : ∀ x ∈ l, R (f x) (k x)) : All2 R (l.map f) (l.map k) := All2.maps l h
set_option maxRecDepth 100000 in
set_option maxHeartbeats 8000000 in
theorem keys_any (v : Vl) (us : List Vl) (R col : Nat) (bc oc cc : Nat) (w : World) (he : VEnv w) (hs : Src w v us R) (h2 : col < 3) (hc : w.cell? ⟨bc, oc, none⟩ = some (.int .i64 (col : Int))) :
    Calls Tryz.prog 37 #[v.v, .slice (some ⟨bc, oc, none⟩) 1 cc] w fun e w' => ∃ (gx cx : Nat), e = .returned (.slice (some ⟨gx, 0, none⟩) (keysP (colL us col R)).length cx) ∧ KT w' (.slice (some ⟨gx, 0, none⟩) (keysP (colL us col R)).length cx) (keysP (colL us col R)) ∧ Below w.heap.size w w' := by
  have r1 := hs.r1
  have r2 := hs.r2
  have hrows := hs.rows
  have hmem := fun i (hi : i < R) => hs.ok _ (hs.mem (i := (i + 1) * 3 + col) (by omega))
  obtain ⟨K, hK⟩ : ∃ K, K = colL us col R := ⟨_, rfl⟩
  have hKl : K.length = R := by rw [hK, colL_len]
  have HKG := Lib.hid (show ∀ i, i < R → K.take (i + 1) = K.take i ++ [us[(i + 1) * 3 + col]!] from fun i hi => by
    have h9 : i < K.length := by omega
    rw [← List.take_append_getElem h9]
    congr 2
    subst hK
    simp [colL])
  have HKO := Lib.hid (show ∀ u ∈ K, u.ok ∧ u.sz from fun u hu => by
    rw [hK] at hu
    obtain ⟨i, hi, rfl⟩ := List.mem_map.1 hu
    exact hmem i (List.mem_range.1 hi))
  have bbc : bc < w.heap.size := World.block_lt_of_cell? _ _ hc
  have HKEY := Lib.hid (show ∀ i, i ≤ R → ∀ W, Below w.heap.size w W → Calls Tryz.prog 39 #[v.v, .int .i64 (i : Int), .slice (some ⟨bc, oc, none⟩) 1 cc] W fun e w' => ∃ x : SV, e = .returned (sv3 x) ∧ KO w' W.heap.size x us[i * 3 + col]! ∧ Below W.heap.size W w' from fun i hi W hW => key_any v us R i col bc oc cc W (hs.below hW) hi h2 ((hW.cell (p := ⟨bc, oc, none⟩) bbc).trans hc))
  have HE := Lib.hid he
  rw [← hK]
  clear hmem hs hc he hK
  obtain ⟨k, num, den, text, on, code, rows, cols, A, n, c⟩ := v
  dsimp only at hrows
  subst hrows
  have HKEY := Lib.hid (show ∀ i, i ≤ R → ∀ W, Below w.heap.size w W → Calls Tryz.prog 39 #[.agg #[.int .i64 k, .string num, .string den, .string text, .bool on, .int .i64 code, .int .i64 ((R : Int) + 1), .int .i64 cols, .slice A n c], .int .i64 (i : Int), .slice (some ⟨bc, oc, none⟩) 1 cc] W fun e w' => ∃ x1 x2 x3, e = .returned (.slice x1 x2 x3) ∧ KO w' W.heap.size (x1, x2, x3) us[i * 3 + col]! ∧ Below W.heap.size W w' from fun i hi W hW => (HKEY.out i hi W hW).mono fun e w' ⟨⟨x1, x2, x3⟩, h1, h2, h3⟩ => ⟨x1, x2, x3, h1, h2, h3⟩)
  have HL0 := Lib.hid ((Loc.start w).alloc' rfl 27 #[.int .i64 k, .string num, .string den, .string text, .bool on, .int .i64 code, .int .i64 ((R : Int) + 1), .int .i64 cols, .slice A n c])
  show Calls Tryz.prog 37 #[.agg #[.int .i64 k, .string num, .string den, .string text, .bool on, .int .i64 code, .int .i64 ((R : Int) + 1), .int .i64 cols, .slice A n c], .slice (some ⟨bc, oc, none⟩) 1 cc] w _
  go_enter Tryz.func37, Tryz.ntmps37
  go_wp2_with fail
  go_loopw [5, 6] (fun u5 u6 wr => ∃ (i : Nat) (H : List SV), i ≤ R ∧ u6 = .int .i64 ((i : Int) + 1) ∧ Hid (RowOf 25 1 (fun x => [sv3 x]) wr (w.heap.size + 1) u5 H) ∧ Hid (All2 (KO wr (w.heap.size + 1)) H (K.take i)) ∧ Hid (Loc w [(w.heap.size, 27, #[.int .i64 k, .string num, .string den, .string text, .bool on, .int .i64 code, .int .i64 ((R : Int) + 1), .int .i64 cols, .slice A n c])] wr)) (fun _ u _ => R + 1 - (intOf u).toNat)
  case atStart => exact ⟨0, [], by omega, rfl, Lib.hid (RowOf.nil _ _), Lib.hid All2.nil, HL0⟩
  case round =>
    clear HL0
    obtain ⟨i, H, hi, rfl, HO, HA, HL⟩ := hrel
    have bz := HL.out.blk (g := w.heap.size) (t := 27) (List.mem_singleton.2 rfl)
    have HBZ := Lib.hid bz
    obtain ⟨z0, z1, z2, z3, z4, z5, z6, z7, z8⟩ := bz.nine
    clear bz
    have hH : H.length = i := by rw [HA.out.len, List.length_take]; omega
    by_cases hlt : i < R
    · have hlz : (i : Int) + 1 < (R : Int) + 1 := by omega
      have HK1 := Lib.hid (HKEY.out (i + 1) (by omega) wr HL.out.bel)
      rw [show ((i + 1 : Nat) : Int) = (i : Int) + 1 by omega] at HK1
      have HSZ := Lib.hid (show w.heap.size + 1 ≤ wr.heap.size from HL.out.lt (g := w.heap.size) (t := 27) (List.mem_singleton.2 rfl))
      go_wp2_with (first
        | (go_at_call 39; (with_reducible refine HK1.out.mono ?_); rintro e w1 ⟨x1, x2, x3, rfl, hk, hb⟩; have HKN := Lib.hid (RowOf.mono hk HSZ.out); have HB1 := Lib.hid hb; have HO1 := Lib.hid (RowOf.later HO.out hb); have HA1 := Lib.hid (HA.out.imp fun x _ y h => RowOf.later h hb); have HL1 := Lib.hid (HL.out.step hb); have HSZ1 := Lib.hid (Nat.le_trans HSZ.out hb.size); clear hk hb)
        | (at_builtin; go_loud (refine wp_row1 31 25 1 24 (fun x => [sv3 x]) _ Tryz.underlying31 sv_info rfl (by decide) sv_one rfl _ _ rfl (w.heap.size + 1) _ H rfl HO1.out (x1, x2, x3) _ ?_ rfl (by omega) (by unfold maxLen; omega) HSZ1.out ?_); (rfl); intro v3 w3 ho hb hg; have HO2 := Lib.hid ho; have HL2 := Lib.hid (HL1.out.stepB' hb (by omega) (fun x hx => by rw [List.mem_singleton.1 hx]; exact Nat.lt_succ_self _)); have HA2 := Lib.hid ((HA1.out.app HKN.out).imp fun x _ y h => RowOf.kept2 (RowOf.alloc h _) (RowOf.alloc HO1.out _) (by decide) (Chg.grownK hg)); clear ho hb hg))
      go_roundw
      case rel => exact ⟨i + 1, H ++ [(x1, x2, x3)], by omega, by go_num, HO2, Lib.hid (by rw [HKG.out i hlt]; exact HA2.out), HL2⟩
      case measure => simp [intOf]; omega
    · have hlz : ¬ (i : Int) + 1 < (R : Int) + 1 := by omega
      obtain rfl : i = R := by omega
      obtain ⟨g, cp, hu, hg1, hg2⟩ := HO.out.form (by omega)
      rw [hH] at hu
      subst hu
      have hKK := HA.out
      rw [List.take_of_length_le (by omega)] at hKK
      obtain ⟨P, hP1, hP2, hP3⟩ := hKK.zip
      have hPl : P.length = i := by rw [← hH, ← hP1, List.length_map]
      have hrs : RS wr (w.heap.size + 1) g cp (P.map Prod.fst) := by
        unfold RS
        rw [hP1, hH]
        exact HO.out
      have HRS := Lib.hid hrs
      have HP := Lib.hid hP3
      have hpok : ∀ x ∈ P, x.2.ok ∧ x.2.sz := fun x hx => HKO.out _ (by rw [← hP2]; exact List.mem_map.2 ⟨x, hx, rfl⟩)
      have HB := Lib.hid HL.out.bel
      have HKW := Lib.hid (show ∀ W, Chg wr.heap.size [g] wr W → ∀ x ∈ P, KO W (w.heap.size + 1) x.1 x.2 from fun W hW x hx => (RowOf.kept2 (HP.out x hx) (show RowOf 25 1 (fun x => [sv3 x]) wr (w.heap.size + 1) (.slice (some ⟨g, 0, none⟩) _ cp) _ from HRS.out) (by decide) hW))
      have HBW := Lib.hid (show ∀ W, Chg wr.heap.size [g] wr W → Below w.heap.size w W from fun W hW => HB.out.trans (hW.below HB.out.size (fun x hx => by rw [List.mem_singleton.1 hx]; omega)))
      have HCI := Lib.hid (show ∀ w0, Chg wr.heap.size [g] wr w0 → ∀ Q : Array PK, (∀ x ∈ Q.toList, x ∈ P) → CmpIn w0 g Q ordV from fun w0 h0 Q hQ W hW p q hp hq => by
        have hW2 := h0.next hW
        have p1 := hQ p hp
        have q1 := hQ q hq
        exact keycmp_any p.1 q.1 p.2 q.2 W (HE.out.below (HBW.out W hW2)) (RowOf.kr (HKW.out W hW2 p p1)) (RowOf.kr (HKW.out W hW2 q q1)) (hpok p p1).1 (hpok q q1).1 (hpok p p1).2 (hpok q q1).2)
      have HS := Lib.hid (sortst_any ordV P.toArray g cp (w.heap.size + 1) i wr (by simpa using hPl) (by omega) (by simpa using hrs) (HCI.out wr (Chg.refl _ _ _) P.toArray (fun x hx => by simpa using hx)))
      obtain ⟨S, hS⟩ : ∃ S, S = (Sq.ins (fun p q : PK => ordV p.2 q.2) P.toArray 0 i).toList := ⟨_, rfl⟩
      have hSl : S.length = i := by rw [hS, Array.length_toList, Sq.ins_len]; simpa using hPl
      have HSM := Lib.hid (show ∀ x ∈ S, x ∈ P from fun x hx => by
        rw [hS] at hx
        have := (Sq.ins_perm (fun p q : PK => ordV p.2 q.2) P.toArray 0 i).mem_iff (a := x)
        simpa using this.1 (by simpa using hx))
      have hC2 : (Pv.cmpct (fun p q : PK => ordV p.2 q.2) S).map Prod.snd = keysP K := by
        rw [hS, ← hP2]
        exact sort_keys P i hPl
      rw [← hS] at HS
      obtain ⟨C, hC⟩ : ∃ C, C = Pv.cmpct (fun p q : PK => ordV p.2 q.2) S := ⟨_, rfl⟩
      have HCM := Lib.hid (show ∀ x ∈ C, x ∈ P from fun x hx => HSM.out x (cmpct_mem _ S x (by rw [← hC]; exact hx)))
      have HCS := Lib.hid (show ∀ w0, Chg wr.heap.size [g] wr w0 → RS w0 (w.heap.size + 1) g cp (S.map Prod.fst) → Calls Tryz.prog 67 #[.slice (some ⟨g, 0, none⟩) i cp, .func (.func 68) #[] #[]] w0 fun e w' => e = .returned (.slice (some ⟨g, 0, none⟩) C.length cp) ∧ Reads 1 (fun x => [sv3 x]) w' (.slice (some ⟨g, 0, none⟩) C.length cp) (C.map Prod.fst) ∧ Chg w0.heap.size [g] w0 w' ∧ ∃ cs, Blk w' g 25 cs from fun w0 h0 hr => by
        rw [hC]
        exact compact_any ordV S g cp (w.heap.size + 1) i w0 hSl (by omega) (by omega) hr (by
          have := EqIn.of (HCI.out w0 h0 S.toArray (fun x hx => HSM.out x (by simpa using hx)))
          simpa using this))
      rw [← hC] at hC2
      have hCl : C.length = (keysP K).length := by rw [← hC2, List.length_map]
      have HC2 := Lib.hid hC2
      clear hKK hP1 hP2 hP3 hrs hS hC hC2 hpok HO HA hg1 hg2 hH
      have HCL := Lib.hid hCl
      clear hCl
      go_wp2_with (first
        | (go_at_call 66; (with_reducible refine HS.out.mono ?_); rintro e w1 ⟨rfl, h8, h9⟩; have H8 := Lib.hid h8; have H9 := Lib.hid h9; clear h8 h9)
        | (go_at_call 67; (with_reducible refine (HCS.out _ H9.out H8.out).mono ?_); rintro e w2 ⟨rfl, h6, h7, h8⟩; have H6 := Lib.hid h6; have HB6 := Lib.hid h8; have H7 := Lib.hid (H9.out.next h7); clear h6 h7 h8))
      go_ret
      exact ⟨g, cp, by rw [← HCL.out]; rfl, ⟨g, cp, C.map Prod.fst, by rw [← HCL.out, List.length_map], HB6.out, by rw [← HCL.out]; exact H6.out, by rw [← HC2.out]; exact All2.maps C fun x hx => ⟨_, HKW.out _ H7.out x (HCM.out x hx)⟩⟩, HBW.out _ H7.out⟩
end Go.Proofs.YtmapagbmihpbmaaGreatDoor
