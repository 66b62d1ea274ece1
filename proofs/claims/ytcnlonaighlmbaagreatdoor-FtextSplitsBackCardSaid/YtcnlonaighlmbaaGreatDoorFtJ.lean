/- ftext: the texts of the items of all further arguments. -/
import Derived.Test.YtcnlonaighlmbaaGreatDoorFtW
import Derived.Test.YtcnlonaighlmbaaGreatDoorHai
import Derived.Test.YtcnlonaighlmbaaGreatDoorHag
set_option linter.unusedSimpArgs false
set_option linter.unusedVariables false
namespace Go.Proofs.YtcnlonaighlmbaaGreatDoor
open Go.RowKit

theorem str_info : (Tryz.prog.info? 9).map (fun i => (i.zero, i.size, i.bytes)) = some (some (.string ⟨#[]⟩), 1, 16) := by kernel_rfl
/-- A text as a cell. -/
def sC (t : ByteArray) : List Value := [.string t]
theorem sC_one (t : ByteArray) : (sC t).length = 1 ∧ ∀ x ∈ sC t, x.oneCell' = true := ⟨rfl, by simp [sC, Value.oneCell']⟩
theorem row_chg {α : Type} {E : TypeId} {size : Nat} {f : α → List Value} {w w' : World} {v : Value} {l : List α} {base q : Nat} (h : RowOf E size f w base v l) (hc : Chg w.heap.size [q] w w') (hq : q < base) : RowOf E size f w' base v l :=
  h.chg hc fun g hg => ⟨(h.lt g hg).2, by
    rw [List.mem_singleton]
    have := (h.lt g hg).1
    omega⟩
/-- The cells of a new slice of values. -/
theorem reads_newN (W : World) (cs : Array Value) (l : List Vl) (h : cs.toList = l.flatMap csV) : Reads 9 csV (W.alloc (.cells cs 26)) (.slice (some ⟨W.heap.size, 0, none⟩) l.length l.length) l :=
  ⟨_, _, rfl, Nat.le_refl _, (fun e => by cases e), fun _ => ⟨W.heap.size, 0, rfl, by simp, fun i hi j hj => by
    have h1 := (Blk.new W 26 cs).cell (0 + (i * 9 + j))
    rw [h1, Nat.zero_add, ← Array.getElem?_toList, h]
    exact flat_get csV 9 csV_len l i j hi hj⟩⟩
/-- The texts of the arguments from i0 on, k of them. -/
def catT (TL : Nat → List ByteArray) (i0 k : Nat) : List ByteArray := (List.range k).flatMap fun j => TL (i0 + j)
theorem catT_zero (TL : Nat → List ByteArray) (i0 : Nat) : catT TL i0 0 = [] := rfl
theorem catT_succ (TL : Nat → List ByteArray) (i0 k : Nat) : catT TL i0 (k + 1) = catT TL i0 k ++ TL (i0 + k) := by
  unfold catT
  rw [List.range_succ, List.flatMap_append]
  simp
theorem catT_len {TL : Nat → List ByteArray} {i0 M : Nat} : ∀ k, (∀ j, j < k → (TL (i0 + j)).length ≤ M) → (catT TL i0 k).length ≤ k * M
  | 0, _ => by simp [catT_zero]
  | k + 1, h => by
    rw [catT_succ, List.length_append, Nat.add_mul, Nat.one_mul]
    have h1 := catT_len k fun j hj => h j (by omega)
    have h2 := h k (by omega)
    omega
/-- How many arguments are taken. -/
def ctrQ (w : World) (q : Nat) : Nat := match w.cell? ⟨q, 1, none⟩ with
  | some v => (intOf v).toNat
  | none => 0
theorem ctrQ_of {w : World} {q i : Nat} {t : TypeId} {x : Value} (h : Blk w q t #[x, .int .i64 (i : Int)]) : ctrQ w q = i := by
  have h1 := h.cell 1
  simp only [List.getElem?_toArray, List.getElem?_cons_succ, List.getElem?_cons_zero] at h1
  unfold ctrQ
  rw [h1]
  simp [intOf]
/-- The list of a text. -/
theorem list_1 (t : ByteArray) (W : World) : Calls Tryz.prog 133 #[(tV t).v] W fun e w' => ∃ A1 n1 c1, e = .returned (.slice A1 n1 c1) ∧ Reads 9 csV w' (.slice A1 n1 c1) ([t].map tV) ∧ Below W.heap.size W w' ∧ ∀ b o, A1 = some ⟨b, o, none⟩ → W.heap.size ≤ b := by
  unfold tV Vl.v Vl.cs
  dsimp only
  go_enter Tryz.func133, Tryz.ntmps133
  go_wp2_with fail
  go_ret
  have h := reads_newN (W.alloc (.cells #[.int .i64 2, .string ⟨#[]⟩, .string ⟨#[]⟩, .string t, .bool false, .int .i64 0, .int .i64 0, .int .i64 0, .slice none 0 0] 26)) #[.int .i64 2, .string ⟨#[]⟩, .string ⟨#[]⟩, .string t, .bool false, .int .i64 0, .int .i64 0, .int .i64 0, .slice none 0 0] [tV t] rfl
  have e : (W.alloc (.cells #[.int .i64 2, .string ⟨#[]⟩, .string ⟨#[]⟩, .string t, .bool false, .int .i64 0, .int .i64 0, .int .i64 0, .slice none 0 0] 26)).heap.size = W.heap.size + 1 := by simp
  rw [e] at h
  exact ⟨_, _, _, rfl, h, (below_al _ _).alloc (by simp) _, fun b o e => by
    injection e with e
    injection e with e1
    omega⟩
section
variable {ops : Array Oper} {rest : List Oper} {o : Oper} {a : Act} {Q : Exit → Act → World → Prop}
/-- append of one element to a row of the call's own; where the row lies then. -/
theorem wp_row1n {α : Type} (T E : TypeId) (size bytes : Nat) (f : α → List Value) (z : Value) (hu : Tryz.prog.underlying T = some (.slice E)) (hinfo : (Tryz.prog.info? E).map (fun i => (i.zero, i.size, i.bytes)) = some (some z, size, bytes)) (hzs : z.cells.size = size) (hsz : 0 < size)
    (hf : ∀ x, (f x).length = size ∧ ∀ u ∈ f x, u.oneCell' = true)
    {w : World} (hgd : o.guard = none) (s x : Operand) (ho : o.op = .call { callee := .builtin .append, args := #[s, x], argTypes := #[T, T] })
    (base : Nat) (v : Value) (l : List α) (hs : a.eval s = v) (hown : RowOf E size f w base v l) (d : α) (cs : Array Value) (hcs : cs.toList = f d) (hx : a.eval x = .slice (some ⟨w.heap.size, 0, none⟩) 1 1)
    (hby : (l.length + 1) * bytes ≤ 140737488355328) (h63 : l.length + 1 ≤ maxLen) (hbase : base ≤ w.heap.size)
    (h : ∀ v' w', RowOf E size f w' base v' (l ++ [d]) → Below base w w' → (w.alloc (.cells cs E)).grownBy w' v.ownBlock → (v'.ownBlock = v.ownBlock ∨ v'.ownBlock = some (w.heap.size + 1)) → wpList Tryz.prog ops Q rest (a.put o.dst v') w') :
    wpList Tryz.prog ops Q (o :: rest) a (w.alloc (.cells cs E)) := by
  obtain ⟨i0, hi, hz0, hz1, hz2⟩ := info_parts hinfo
  have hown' := hown.alloc (.cells cs E)
  refine wpList_append_own_at _ hgd s x T ho base E i0 z size bytes hu hi hz0 hz1 hz2 hzs hsz v l.length (l.flatMap f) hs hown' ⟨w.heap.size, 0, none⟩ 1 1 (f d) hx (by rw [(hf d).1]; omega) (by rw [← hcs]; exact news_new _ _ _) (hf d).2 h63 hby (by simp; omega) ?_
  intro v' w' h1 h2 _ h5
  refine h v' w' ?_ ?_ h2 (by simpa using h5)
  · unfold RowOf
    rw [List.flatMap_append, List.length_append]
    simpa using h1
  · exact ((Below.refl _ _).alloc hbase _).grown h2 (by simp; omega) (fun k hk => ((World.ownsRow.lt hown) k hk).1)
end
/-- The row's own block is older than n2, or not older than m3. -/
def OwnI (v : Value) (n2 m3 : Nat) : Prop := ∀ k, v.ownBlock = some k → k < n2 ∨ m3 ≤ k
theorem reads_grown {α : Type} {size : Nat} {f : α → List Value} {W w' : World} {o : Obj} {A : Option Addr} {n c : Nat} {l : List α} {v : Value} {base n2 m3 : Nat} (h : Reads size f W (.slice A n c) l) (hg : (W.alloc o).grownBy w' v.ownBlock) (hv : ∀ k, v.ownBlock = some k → base ≤ k) (hi : OwnI v n2 m3) (hA : ∀ b o, A = some ⟨b, o, none⟩ → b < base ∨ (n2 ≤ b ∧ b < m3)) : Reads size f w' (.slice A n c) l := by
  have hs := hg.size
  simp only [World.alloc, Array.size_push] at hs
  refine reads_same2 h (by omega) fun b o' e hb => ?_
  have h1 := hg.block b (by simp only [World.alloc, Array.size_push]; omega) (fun e2 => by
    have h3 := hv b e2.symm
    have h4 := hi b e2.symm
    rcases hA b o' e with h5 | h5 <;> omega)
  exact h1.trans (Below.heap_alloc W o b hb)
theorem own_next {v v' : Value} {n2 m3 N N' : Nat} (h : OwnI v n2 m3) (hN : m3 ≤ N) (hv : v'.ownBlock = v.ownBlock ∨ v'.ownBlock = some (N + 1)) (hN' : N ≤ N') : OwnI v' n2 m3 ∧ m3 ≤ N' :=
  ⟨fun k hk => by
    rcases hv with h1 | h1
    · rw [h1] at hk
      exact h k hk
    · rw [h1] at hk
      injection hk with hk
      right
      omega, Nat.le_trans hN hN'⟩
set_option maxRecDepth 100000 in
set_option maxHeartbeats 8000000 in
/-- The texts of all further arguments. -/
theorem texts_any (W0 W : World) (q : Nat) (A : Option Addr) (n c i0 : Nat) (avs : List Vl) (TL : Nat → List ByteArray) (h0 : Below W0.heap.size W0 W) (hq0 : W0.heap.size ≤ q) (hq : Blk W q 120 #[.slice A n c, .int .i64 (i0 : Int)]) (hA : Reads 9 csV W0 (.slice A n c) avs) (hi0 : i0 ≤ n) (hn : n ≤ 255) (he : VEnv W0)
    (hL : ∀ i, i0 ≤ i → i < n → ∀ W', Below W0.heap.size W0 W' → Calls Tryz.prog 133 #[avs[i]!.v] W' fun e w' => ∃ A1 n1 c1, e = .returned (.slice A1 n1 c1) ∧ Reads 9 csV w' (.slice A1 n1 c1) ((TL i).map tV) ∧ Below W'.heap.size W' w' ∧ ∀ b o, A1 = some ⟨b, o, none⟩ → b < W0.heap.size ∨ W'.heap.size ≤ b)
    (hT : ∀ i, i0 ≤ i → i < n → ∀ t ∈ TL i, txtE t = 0) (hM : ∀ i, i0 ≤ i → i < n → (TL i).length ≤ 1000) :
    Calls Tryz.prog 80 #[.pointer (some ⟨q, 0, none⟩)] W fun e w' => ∃ v, e = .returned v ∧ RowOf 9 1 sC w' W.heap.size v (catT TL i0 (n - i0)) ∧ Blk w' q 120 #[.slice A n c, .int .i64 (n : Int)] ∧ Below W0.heap.size W0 w' ∧ Chg W.heap.size [q] W w' := by
  have HM := Lib.hid fun (i : Nat) (W' : World) (hq' : Blk W' q 120 #[.slice A n c, .int .i64 (i : Int)]) => more_any q A n c i W' hq'
  have HV := Lib.hid fun (i : Nat) (hi : i < n) (W' : World) (hW : Below W0.heap.size W0 W') (hq' : Blk W' q 120 #[.slice A n c, .int .i64 (i : Int)]) => value_b W0 W' q A n c i avs hW hq0 hq' hA hi (by omega)
  have HLI := Lib.hid hL
  have HTT := Lib.hid fun (t : ByteArray) (ht : txtE t = 0) (W' : World) (hW : Below W0.heap.size W0 W') => totext_t t W' (he.below hW) ht
  have HTX := Lib.hid hT
  have HLN := Lib.hid hM
  have hql := hq.lt
  have HQL := Lib.hid hql
  have HSZ0 := Lib.hid h0.size
  have HO := Lib.hid (RowOf.nil (E := 9) (size := 1) (f := sC) W W.heap.size)
  have HQ := Lib.hid hq
  have HB := Lib.hid h0
  have HC := Lib.hid (Chg.refl W.heap.size [q] W)
  clear hL hT hM hq h0 hA he hq0
  go_enter Tryz.func80, Tryz.ntmps80
  go_wp2_with fail
  go_loopw [3] (fun u3 wr => ∃ i : Nat, i0 ≤ i ∧ i ≤ n ∧ Hid (RowOf 9 1 sC wr W.heap.size u3 (catT TL i0 (i - i0))) ∧ Hid (Blk wr q 120 #[.slice A n c, .int .i64 (i : Int)]) ∧ Hid (Below W0.heap.size W0 wr) ∧ Hid (Chg W.heap.size [q] W wr)) (fun _ wr => n - ctrQ wr q)
  case atStart => exact ⟨i0, Nat.le_refl _, hi0, by rw [Nat.sub_self]; exact HO, HQ, HB, HC⟩
  case round =>
    clear HO HQ HB HC
    obtain ⟨i, hi1, hi2, HO, HQ, HB, HC⟩ := hrel
    have hctr := Lib.hid (ctrQ_of HQ.out)
    by_cases hlt : i < n
    · have HM1 := Lib.hid (HM.out i wr HQ.out true (by simp [hlt]))
      obtain ⟨m, hm⟩ : ∃ m, m = (TL i).length := ⟨_, rfl⟩
      have HV1 := HV.out i hlt
      have HLI1 := HLI.out i hi1 hlt
      generalize avs[i]!.v = uv at HV1 HLI1
      have HV1 := Lib.hid HV1
      have HLI1 := Lib.hid HLI1
      have hm1 : m ≤ 1000 := by rw [hm]; exact HLN.out i hi1 hlt
      have hc1 : (catT TL i0 (i - i0)).length ≤ 255 * 1000 := by
        have h := catT_len (TL := TL) (i0 := i0) (M := 1000) (i - i0) fun j hj => HLN.out (i0 + j) (by omega) (by omega)
        have h2 : (i - i0) * 1000 ≤ 255 * 1000 := Nat.mul_le_mul_right _ (by omega)
        omega
      go_upto_region 4 with (first
        | (go_at_call 119; (with_reducible refine HM1.out.mono ?_); rintro e w1 ⟨rfl, hb⟩; have HO1 := Lib.hid (HO.out.later hb); have HQ1 := Lib.hid (HQ.out.later hb); have HB1 := Lib.hid (HB.out.trans (hb.mono HB.out.size)); have HC1 := Lib.hid (HC.out.next (Chg.of hb [q])); clear hb HM1 HO HQ HB HC)
        | (go_at_call 107; (with_reducible refine (HV1.out _ HB1.out HQ1.out).mono ?_); rintro e w2 ⟨rfl, hq2, hb, hc⟩; have HO2 := Lib.hid (row_chg HO1.out hc HQL.out); have HQ2 := Lib.hid hq2; have HB2 := Lib.hid hb; have HC2 := Lib.hid (HC1.out.next hc); clear hq2 hb hc HO1 HQ1 HB1 HC1)
        | (go_at_call 133; (with_reducible refine (HLI1.out _ HB2.out).mono ?_); rintro e w3 ⟨A1, n1, c1, rfl, hr, hb, hfr⟩; have HFR := Lib.hid hfr; have HR3 := Lib.hid hr; have HO3 := Lib.hid (HO2.out.later hb); have HQ3 := Lib.hid (HQ2.out.later hb); have HB3 := Lib.hid (HB2.out.trans (hb.mono HB2.out.size)); have HC3 := Lib.hid (HC2.out.next (Chg.of hb [q])); have HO22 := Lib.hid HO2.out; have HC22 := Lib.hid HC2.out; clear hr hb hfr HO2 HQ2 HB2 HC2))
      have hn1 : n1 = m := by
        obtain ⟨A', c', e, -⟩ := HR3.out
        injection e with e1 e2 e3
        rw [e2, List.length_map, hm]
      subst hn1
      have HFA := Lib.hid (show 0 < n1 → ∀ b o, A1 = some ⟨b, o, none⟩ → b < W.heap.size ∨ (w2.heap.size ≤ b ∧ b < w3.heap.size) from fun hn0 b o e => by
        have h1 := HFR.out b o e
        have h2 := HSZ0.out
        have h3 := HR3.out
        subst e
        have h4 := (h3.lt (by omega)).2.1
        omega)
      have HOI := Lib.hid (show OwnI u3 w2.heap.size w3.heap.size from fun k hk => .inl ((HO22.out.lt k hk).2))
      obtain ⟨LL, hLL⟩ : ∃ LL, LL = catT TL i0 (i - i0) := ⟨_, rfl⟩
      rw [← hLL] at hc1 HO3
      have HSU := Lib.hid (show catT TL i0 (i + 1 - i0) = LL ++ TL i from by
        rw [show i + 1 - i0 = i - i0 + 1 from by omega, catT_succ, ← hLL, show i0 + (i - i0) = i from by omega])
      have HMm := Lib.hid hm
      clear hLL hm HO22 HC22 HFR
      go_wp2_with fail
      go_loopw [3, 14] (fun x3 x14 wr => ∃ (k : Nat) (v3 : Value), k ≤ n1 ∧ v3 = x3 ∧ x14 = .int .i64 (k : Int) ∧ Hid (RowOf 9 1 sC wr W.heap.size v3 (LL ++ (TL i).take k)) ∧ Hid (Blk wr q 120 #[.slice A n c, .int .i64 ((i : Int) + 1)]) ∧ Hid (Below W0.heap.size W0 wr) ∧ Hid (Chg W.heap.size [q] W wr) ∧ Hid (Reads 9 csV wr (.slice A1 n1 c1) ((TL i).map tV)) ∧ Hid (OwnI v3 w2.heap.size w3.heap.size ∧ w3.heap.size ≤ wr.heap.size)) (fun _ x14 _ => n1 - (intOf x14).toNat)
      case atStart => exact ⟨0, _, Nat.zero_le _, rfl, rfl, by rw [List.take_zero, List.append_nil]; exact HO3, HQ3, HB3, HC3, HR3, Lib.hid ⟨HOI.out, Nat.le_refl _⟩⟩
      case round =>
        clear HO3 HQ3 HB3 HC3 HR3 HOI
        obtain ⟨k, v3, hk, rfl, rfl, HO, HQ, HB, HC, HRd, HOI⟩ := hrel
        by_cases hkl : k < n1
        · have i1 : IntKind.i64.wrap ((k : Int) + 1) = (k : Int) + 1 := IntWalk.i64_in _ (by omega)
          have x1 : 0 ≤ (k : Int) := by omega
          have x2 : (k : Int) < (n1 : Int) := by omega
          obtain ⟨b, o, rfl⟩ : ∃ b o, A1 = some ⟨b, o, none⟩ := by
            obtain ⟨A', c', e, -, -, h3⟩ := HRd.out
            injection e with e1 e2 e3
            obtain ⟨b, o, e4, -⟩ := h3 (by rw [List.length_map, ← HMm.out]; omega)
            exact ⟨b, o, e1.trans e4⟩
          have hkm : k < (TL i).length := by rw [← HMm.out]; exact hkl
          obtain ⟨t, ht⟩ : ∃ t, t = (TL i)[k] := ⟨_, rfl⟩
          obtain ⟨uk, unum, uden, utext, uon, ucode, urows, ucols, uA, un, uc, hus, hcs⟩ := read_at HRd.out hkl
          have hus2 : tV t = ⟨uk, unum, uden, utext, uon, ucode, urows, ucols, uA, un, uc⟩ := by
            rw [← hus, getElem!_pos _ k (by rw [List.length_map]; exact hkm), List.getElem_map, ht]
          unfold tV at hus2
          injection hus2 with g1 g2 g3 g4 g5 g6 g7 g8 g9 g10 g11
          subst g1 g2 g3 g4 g5 g6 g7 g8 g9 g10 g11
          obtain ⟨e0, e1, e2, e3, e4, e5, e6, e7, e8⟩ := hcs wr (Below.refl _ _)
          clear hcs hus
          have htk := HTX.out i hi1 hlt t (by rw [ht]; exact List.getElem_mem hkm)
          have htt := HTT.out t htk
          unfold tV Vl.v Vl.cs at htt
          dsimp only at htt
          have HTT1 := Lib.hid htt
          have HTS := Lib.hid (show (TL i).take (k + 1) = (TL i).take k ++ [t] from by rw [List.take_add_one, List.getElem?_eq_getElem hkm, ht]; rfl)
          have hlk : (LL ++ (TL i).take k).length ≤ 256000 := by
            rw [List.length_append, List.length_take, ← HMm.out]
            omega
          obtain ⟨LK, hLK⟩ : ∃ LK, LK = LL ++ (TL i).take k := ⟨_, rfl⟩
          rw [← hLK] at HO hlk
          have HLK := Lib.hid hLK
          have HFB := Lib.hid (HFA.out (by omega))
          clear htt htk ht hLK hkm
          go_upto_region 6 with fail
          clear e0 e1 e2 e3 e4 e5 e6 e7 e8
          have hba := below_al wr (.cells #[.int .i64 2, .string ⟨#[]⟩, .string ⟨#[]⟩, .string t, .bool false, .int .i64 0, .int .i64 0, .int .i64 0, .slice none 0 0] 26)
          have HX5 := Lib.hid (Blk.new wr 26 #[.int .i64 2, .string ⟨#[]⟩, .string ⟨#[]⟩, .string t, .bool false, .int .i64 0, .int .i64 0, .int .i64 0, .slice none 0 0])
          have HO5 := Lib.hid (HO.out.later hba)
          have HQ5 := Lib.hid (HQ.out.later hba)
          have HB5 := Lib.hid (HB.out.trans (hba.mono HB.out.size))
          have HC5 := Lib.hid (HC.out.next (Chg.of hba [q]))
          have HR5 := Lib.hid (HRd.out.below hba)
          have HOI5 := Lib.hid (show OwnI v3 w2.heap.size w3.heap.size ∧ w3.heap.size ≤ (wr.alloc (.cells #[.int .i64 2, .string ⟨#[]⟩, .string ⟨#[]⟩, .string t, .bool false, .int .i64 0, .int .i64 0, .int .i64 0, .slice none 0 0] 26)).heap.size from ⟨HOI.out.1, Nat.le_trans HOI.out.2 hba.size⟩)
          clear hba HO HQ HB HC HRd HOI
          revert HX5 HO5 HQ5 HB5 HC5 HR5 HOI5
          generalize wr.alloc (.cells #[.int .i64 2, .string ⟨#[]⟩, .string ⟨#[]⟩, .string t, .bool false, .int .i64 0, .int .i64 0, .int .i64 0, .slice none 0 0] 26) = w5
          generalize wr.heap.size = X
          intro HX5 HO5 HQ5 HB5 HC5 HR5 HOI5
          obtain ⟨e0, e1, e2, e3, e4, e5, e6, e7, e8⟩ := HX5.out.nine
          go_wp2_with (first
            | (go_at_call 106; (with_reducible refine (HTT1.out _ HB5.out).mono ?_); rintro e w6 ⟨rfl, hb⟩; have HO6 := Lib.hid (HO5.out.later hb); have HQ6 := Lib.hid (HQ5.out.later hb); have HB6 := Lib.hid (HB5.out.trans (hb.mono HB5.out.size)); have HC6 := Lib.hid (HC5.out.next (Chg.of hb [q])); have HR6 := Lib.hid (HR5.out.below hb); have HOI6 := Lib.hid (show OwnI v3 w2.heap.size w3.heap.size ∧ w3.heap.size ≤ w6.heap.size from ⟨HOI5.out.1, Nat.le_trans HOI5.out.2 hb.size⟩); clear hb HO5 HQ5 HB5 HC5 HR5 HOI5 e0 e1 e2 e3 e4 e5 e6 e7 e8)
            | (go_at_call 108; (with_reducible refine (stop_0 _).mono ?_); rintro e w7 ⟨rfl, rfl⟩)
            | (at_builtin; go_loud (refine wp_row1n 96 9 1 16 sC _ Tryz.underlying96 str_info rfl (by decide) sC_one rfl _ _ rfl W.heap.size _ LK rfl HO6.out t _ ?_ rfl (by omega) (by unfold maxLen; omega) HC6.out.size ?_); (rfl); intro v4 w7 ho hb hg hv; have HO7 := Lib.hid ho; have HQ7 := Lib.hid (HQ6.out.below hb HQL.out); have HB7 := Lib.hid (HB6.out.trans (hb.mono HSZ0.out)); have HC7 := Lib.hid (HC6.out.trans (Chg.of hb [q])); have HR7 := Lib.hid (reads_grown HR6.out hg (fun k hk => (HO6.out.lt k hk).1) HOI6.out.1 HFB.out); have HOI7 := Lib.hid (own_next HOI6.out.1 HOI6.out.2 hv hb.size); clear ho hb hg hv HO6 HQ6 HB6 HC6 HR6 HOI6))
          go_roundw
          case rel => exact ⟨k + 1, _, by omega, rfl, by go_num, by rw [HTS.out, ← List.append_assoc, ← HLK.out]; exact HO7, HQ7, HB7, HC7, HR7, HOI7⟩
          case measure => simp [intOf]; omega
        · obtain rfl : k = n1 := by omega
          go_wp2_with fail
          go_roundw
          case rel => exact ⟨i + 1, by omega, by omega, by rw [HSU.out, ← List.take_of_length_le (l := TL i) (Nat.le_of_eq HMm.out.symm)]; exact HO, HQ, HB, HC⟩
          case measure =>
            have h1 := ctrQ_of (i := i + 1) HQ.out
            have h2 := hctr.out
            omega
    · obtain rfl : i = n := by omega
      have HM1 := Lib.hid (HM.out i wr HQ.out false (by simp))
      go_wp2_with (go_at_call 119; (with_reducible refine HM1.out.mono ?_); rintro e w1 ⟨rfl, hb⟩; have HO1 := Lib.hid (HO.out.later hb); have HQ1 := Lib.hid (HQ.out.later hb); have HB1 := Lib.hid (HB.out.trans (hb.mono HB.out.size)); have HC1 := Lib.hid (HC.out.next (Chg.of hb [q])); clear hb HM1 HO HQ HB HC)
      go_ret
      exact ⟨_, rfl, HO1.out, HQ1.out, HB1.out, HC1.out⟩
end Go.Proofs.YtcnlonaighlmbaaGreatDoor
