/- axis: the writer's memory; flush. -/
import Derived.Test.YtjgojbkmeggmhaaDoorAxA
import Derived.Deep.RegionLaw
import Derived.Deep.AppendLies
namespace Go.Proofs.YtjgojbkmeggmhaaDoor
open Go.RowKit

/-- Of the blocks below B at most g is changed. -/
structure Bx (g B : Nat) (w w' : World) : Prop where
  os : w'.os = w.os
  tape : w'.tape = w.tape
  output : w'.output = w.output
  size : w.heap.size ≤ w'.heap.size
  block : ∀ k, k < B → k ≠ g → w'.heap[k]? = w.heap[k]?
section
variable {g B : Nat} {w w1 w2 w3 : World}
theorem Bx.refl (g B : Nat) (w : World) : Bx g B w w := ⟨rfl, rfl, rfl, Nat.le_refl _, fun _ _ _ => rfl⟩
theorem Bx.trans (h : Bx g B w1 w2) (k : Bx g B w2 w3) : Bx g B w1 w3 :=
  ⟨k.os.trans h.os, k.tape.trans h.tape, k.output.trans h.output, Nat.le_trans h.size k.size, fun i hi hg => (k.block i hi hg).trans (h.block i hi hg)⟩
theorem Bx.of (h : Below B w1 w2) : Bx g B w1 w2 := ⟨h.os, h.tape, h.output, h.size, fun i hi _ => h.block i hi⟩
theorem Bx.set (h : Bx g B w1 w2) (i : Nat) (u : Value) : Bx g B w1 (w2.setCell ⟨g, i, none⟩ u) :=
  h.trans ⟨rfl, rfl, rfl, by simp [World.setCell], fun k _ hk => Below.heap_setCell _ _ _ _ hk⟩
theorem Bx.drewN (h : Bx g B w1 w2) (n : Nat) : Bx g B w1 (w2.drewN n) := ⟨h.os, h.tape, h.output, h.size, h.block⟩
theorem Bx.mono {B' : Nat} (h : Bx g B w1 w2) (hb : B' ≤ B) : Bx g B' w1 w2 := ⟨h.os, h.tape, h.output, h.size, fun i hi hg => h.block i (by omega) hg⟩
theorem Bx.below {B' : Nat} (h : Bx g B w1 w2) (hb : B' ≤ B) (hg : B' ≤ g) : Below B' w1 w2 := ⟨h.os, h.tape, h.output, h.size, fun i hi => h.block i (by omega) (by omega)⟩
theorem Blk.bx {q : Nat} {t : TypeId} {cs : Array Value} (h : Blk w1 q t cs) (hb : Bx g B w1 w2) (hq : q < B) (hg : q ≠ g) : Blk w2 q t cs := (hb.block q hq hg).trans h
theorem Blk.one_set {t : TypeId} {x0 x1 x2 : Value} (h : Blk w g t #[x0, x1, x2]) (y : Value) : Blk (w.setCell ⟨g, 0, none⟩ y) g t #[y, x1, x2] := by
  have := h.set_ 0 y
  simpa using this
theorem Blk.drewN' {t : TypeId} {cs : Array Value} (h : Blk w g t cs) (n : Nat) : Blk (w.drewN n) g t cs := h
end

theorem st_info : (Tryd.prog.info? 103).map (fun i => (i.zero, i.size, i.bytes)) = some (some (.agg #[.int .i64 0, .int .i64 0]), 2, 16) := by kernel_rfl
theorem st_len (x : Ax.Step) : (stC x).length = 2 ∧ ∀ u ∈ stC x, u.oneCell' = true := ⟨rfl, by simp [stC, Value.oneCell']⟩
abbrev SOwn (w : World) (base : Nat) (v : Value) (l : List Ax.Step) : Prop := RowOf 103 2 stC w base v l
/-- The writer at block g; its row lies at B or above. -/
def WrAt (w : World) (g B : Nat) (W : Ax.Wr) : Prop :=
  g < B ∧ B ≤ w.heap.size ∧ ∃ v, Blk w g 90 #[v, .int .i64 W.add, .int .i64 W.cut] ∧ SOwn w B v W.out
theorem SOwn.apart {w : World} {g B : Nat} {v : Value} {l : List Ax.Step} (h : SOwn w B v l) (hg : g < B) (i : Nat) (u : Value) : SOwn (w.setCell ⟨g, i, none⟩ u) B v l :=
  RowOf.far h (fun k hk => by have := (World.ownsRow.lt h k hk).1; dsimp only; omega) u
theorem SOwn.bx {w w' : World} {q B _C : Nat} {v : Value} {l : List Ax.Step} (h : SOwn w B v l) (hb : Bx q w.heap.size w w') (hq : q < B) : SOwn w' B v l := by
  refine World.ownsRow.kept h (row := some q) ⟨hb.os, hb.tape, hb.output, hb.size, fun k hk hne => hb.block k hk (fun e => hne (by rw [e]))⟩ ?_
  cases hv : v.ownBlock with
  | none => exact .inl rfl
  | some k =>
    have := (World.ownsRow.lt h k hv).1
    exact .inr (fun e => by injection e; omega)
theorem WrAt.below {w w' : World} {g B : Nat} {W : Ax.Wr} (h : WrAt w g B W) (hb : Below w.heap.size w w') : WrAt w' g B W := by
  obtain ⟨h1, h2, v, h3, h4⟩ := h
  exact ⟨h1, Nat.le_trans h2 hb.size, v, h3.later hb, RowOf.later h4 hb⟩
/-- What another block's change leaves. -/
theorem WrAt.bx {w w' : World} {g q B : Nat} {W : Ax.Wr} (h : WrAt w g B W) (hb : Bx q w.heap.size w w') (hq : q < B) (hne : g ≠ q) : WrAt w' g B W := by
  obtain ⟨h1, h2, v, h3, h4⟩ := h
  exact ⟨h1, Nat.le_trans h2 hb.size, v, h3.bx hb h3.lt hne, SOwn.bx (_C := 0) h4 hb hq⟩
section
variable {ops : Array Oper} {o : Oper} {a : Act} {K : Act → World → Prop} {Q : Exit → Act → World → Prop} {X : Prop}
/-- append of one element to a row of the call's own, at a step of a region that draws. -/
theorem step_row1 {α : Type} (T E : TypeId) (size bytes : Nat) (f : α → List Value) (z : Value) (hu : Tryd.prog.underlying T = some (.slice E)) (hinfo : (Tryd.prog.info? E).map (fun i => (i.zero, i.size, i.bytes)) = some (some z, size, bytes)) (hzs : z.cells.size = size) (hsz : 0 < size)
    (hf : ∀ x, (f x).length = size ∧ ∀ u ∈ f x, u.oneCell' = true)
    {w : World} (hgd : o.guard = none) (s x : Operand) (ho : o.op = .call { callee := .builtin .append, args := #[s, x], argTypes := #[T, T] })
    (base : Nat) (v : Value) (l : List α) (hs : a.eval s = v) (hown : RowOf E size f w base v l) (d : α) (cs : Array Value) (hcs : cs.toList = f d) (H : Nat) (hH : w.heap.size = H) (hx : a.eval x = .slice (some ⟨H, 0, none⟩) 1 1)
    (hby : (l.length + 1) * bytes ≤ 140737488355328) (h63 : l.length + 1 ≤ maxLen) (hbase : base ≤ w.heap.size)
    (h : ∀ g cap w', RowOf E size f w' base (.slice (some ⟨g, 0, none⟩) (l.length + 1) cap) (l ++ [d]) → Below base w w' → K (a.put o.dst (.slice (some ⟨g, 0, none⟩) (l.length + 1) cap)) w') :
    if Region.wanted o (yielded ops a.tmps) = true then Oper.wp Tryd.prog o a (w.alloc (.cells cs E)) K Q else X := by
  obtain ⟨i0, hi, hz0, hz1, hz2⟩ := info_parts hinfo
  subst hH
  refine step_append_lies (P := Tryd.prog) (w.alloc (.cells cs E)) hgd s x T ho base E i0 z size bytes hu hi hz0 hz1 hz2 hzs hsz v l.length (l.flatMap f) hs (hown.alloc _) ⟨w.heap.size, 0, none⟩ 1 1 (f d) hx (by rw [(hf d).1]; omega) (by rw [← hcs]; exact news_new _ _ _) (hf d).2 (by decide) h63 hby (by simp; omega) _ rfl ?_
  intro g cap w' h1 h2 _ _
  refine h g cap w' ?_ ?_
  · unfold RowOf
    rw [List.flatMap_append, List.length_append]
    simpa using h1
  · exact ((Below.refl _ _).alloc hbase _).grown h2 (by simp; omega) (fun k hk => ((World.ownsRow.lt hown) k hk).1)
end
/-- The writer in the midst of a call that began in w. -/
structure Fl (w : World) (g B : Nat) (v : Value) (out : List Ax.Step) (add cut : Int) (w' : World) : Prop where
  lt : g < B
  le : B ≤ w'.heap.size
  blk : Blk w' g 90 #[v, .int .i64 add, .int .i64 cut]
  own : SOwn w' B v out
  bx : Bx g B w w'
theorem Fl.drew {w w1 : World} {g B : Nat} {v : Value} {out : List Ax.Step} {add cut : Int} (h : Fl w g B v out add cut w1) : Fl w g B v out add cut w1.drew :=
  ⟨h.lt, h.le, h.blk.drew, h.own.drew, ⟨h.bx.os, h.bx.tape, h.bx.output, h.bx.size, h.bx.block⟩⟩
/-- The appended row is stored. -/
theorem Fl.app {w w1 w3 : World} {g B : Nat} {v v3 : Value} {out l3 : List Ax.Step} {add cut : Int} (h : Fl w g B v out add cut w1) (hb : Below B w1 w3) (ho : SOwn w3 B v3 l3) : Fl w g B v3 l3 add cut (w3.setCell ⟨g, 0, none⟩ v3) :=
  ⟨h.lt, by have := hb.size; have := h.le; simp [World.setCell]; omega, (h.blk.below hb h.lt).one_set v3, SOwn.apart ho h.lt 0 v3, (h.bx.trans (Bx.of hb)).set 0 v3⟩
theorem Fl.fin {w w1 : World} {g B : Nat} {v : Value} {out : List Ax.Step} {add cut : Int} (h : Fl w g B v out add cut w1) (y z : Int) :
    Fl w g B v out y z ((w1.setCell ⟨g, 1, none⟩ (.int .i64 y)).setCell ⟨g, 2, none⟩ (.int .i64 z)) :=
  ⟨h.lt, by have := h.le; simpa [World.setCell] using this, by
    have h1 := (h.blk.set_ 1 (.int .i64 y)).set_ 2 (.int .i64 z)
    simpa using h1, SOwn.apart (SOwn.apart h.own h.lt 1 _) h.lt 2 _, (h.bx.set 1 _).set 2 _⟩
theorem Fl.to {w w1 : World} {g B : Nat} {v : Value} {out : List Ax.Step} {add cut : Int} (h : Fl w g B v out add cut w1) : WrAt w1 g B ⟨out, add, cut⟩ ∧ Bx g B w w1 := ⟨⟨h.lt, h.le, v, h.blk, h.own⟩, h.bx⟩
theorem WrAt.fl {w : World} {g B : Nat} {W : Ax.Wr} (h : WrAt w g B W) : ∃ v, Fl w g B v W.out W.add W.cut w := by
  obtain ⟨h1, h2, v, h3, h4⟩ := h
  exact ⟨v, h1, h2, h3, h4, Bx.refl _ _ _⟩

set_option maxRecDepth 100000 in
set_option maxHeartbeats 4000000 in
theorem flush_any (w : World) (g B : Nat) (W : Ax.Wr) (h : WrAt w g B W) (hl : W.out.length ≤ 1000000000000) :
    Calls Tryd.prog 82 #[.pointer (some ⟨g, 0, none⟩)] w fun e w' => e = .returned (.tuple #[]) ∧ WrAt w' g B W.flush ∧ Bx g B w w' := by
  obtain ⟨v, hfl⟩ := h.fl
  obtain ⟨out, add, cut⟩ := W
  dsimp only at hl hfl
  clear h
  have FL0 := Lib.hid hfl
  obtain ⟨x0, x1, x2, f0, f1, f2⟩ := hfl.blk.three
  clear hfl
  have HW := Lib.hid (show Ax.Wr.flush ⟨out, add, cut⟩ = ⟨out ++ Ax.adds add ++ Ax.cuts cut, 0, 0⟩ from rfl)
  go_enter Tryd.func82, Tryd.ntmps82
  go_upto_if 6 with (fail)
  go_cut [] (fun wx => ∃ v', Fl w g B v' (out ++ Ax.adds add) add cut wx)
  case first =>
    rename_i J1 K1 hJ1 hK1
    by_cases ha : 0 < add
    · have HA := Lib.hid (show out ++ Ax.adds add = out ++ [(1, add)] by rw [Ax.adds, if_pos ha])
      go_upto_region 1 with (fail)
      have z1 := (FL0.out.blk.alloc (.cells #[.int .i64 1, .int .i64 add] 103)).three
      obtain ⟨z0, z1, z2, -, -, -⟩ := z1
      go_region_law (refine step_row1 (w := World.drew w) 41 103 2 16 stC _ Tryd.underlying41 st_info rfl (by decide) st_len rfl (.tmp 11) (.tmp 17) rfl B v out rfl FL0.out.own.drew (1, add) _ rfl w.heap.size rfl rfl (by (try simp only [List.length_append, List.length_cons, List.length_nil]); omega) (by unfold maxLen; (try simp only [List.length_append, List.length_cons, List.length_nil]); omega) FL0.out.le ?_; intro g1 c1 w1 ho hb; have FL1 := Lib.hid (FL0.out.drew.app hb ho); obtain ⟨x0, x1, x2, f0, f1, f2⟩ := (FL0.out.drew.blk.below hb FL0.out.lt).three; clear ho hb z0 z1 z2)
      all_goals
        clear x0 x1 x2 f0 f1 f2
        obtain ⟨x0, x1, x2, f0, f1, f2⟩ := FL1.out.blk.three
        refine hK1 _ _ (Met.intro (hJ1 _ _ ?_))
        (repeat apply Exists.intro)
        refine ⟨?_, rfl⟩
        exact ⟨_, by rw [HA.out]; exact FL1.out⟩
    · have HA := Lib.hid (show out ++ Ax.adds add = out by rw [Ax.adds, if_neg ha, List.append_nil])
      go_wp2_with fail
      go_meet
      exact ⟨_, by rw [HA.out]; exact FL0.out⟩
  case rest =>
    obtain ⟨v1, h1⟩ := hcut
    have hal : (out ++ Ax.adds add).length ≤ 1000000000001 := by
      unfold Ax.adds
      split <;> simp <;> omega
    generalize out ++ Ax.adds add = out1 at *
    have FL1 := Lib.hid h1
    clear x0 x1 x2 f0 f1 f2
    obtain ⟨x0, x1, x2, f0, f1, f2⟩ := h1.blk.three
    clear h1 FL0 hl
    go_upto_if 25 with (fail)
    go_cut [] (fun wx => ∃ v', Fl w g B v' (out1 ++ Ax.cuts cut) add cut wx)
    case first =>
      rename_i J2 K2 hJ2 hK2
      by_cases hc : 0 < cut
      · have HA := Lib.hid (show out1 ++ Ax.cuts cut = out1 ++ [(2, cut)] by rw [Ax.cuts, if_pos hc])
        go_upto_region 3 with (fail)
        have z2 := (FL1.out.blk.alloc (.cells #[.int .i64 2, .int .i64 cut] 103)).three
        obtain ⟨z0, z1, z2, -, -, -⟩ := z2
        go_region_law (refine step_row1 (w := World.drew wc) 41 103 2 16 stC _ Tryd.underlying41 st_info rfl (by decide) st_len rfl (.tmp 30) (.tmp 36) rfl B v1 out1 rfl FL1.out.own.drew (2, cut) _ rfl wc.heap.size rfl rfl (by (try simp only [List.length_append, List.length_cons, List.length_nil]); omega) (by unfold maxLen; (try simp only [List.length_append, List.length_cons, List.length_nil]); omega) FL1.out.le ?_; intro g2 c2 w2 ho hb; have FL2 := Lib.hid (FL1.out.drew.app hb ho); obtain ⟨x0, x1, x2, f0, f1, f2⟩ := (FL1.out.drew.blk.below hb FL1.out.lt).three; clear ho hb z0 z1 z2)
        all_goals
          clear x0 x1 x2 f0 f1 f2
          obtain ⟨x0, x1, x2, f0, f1, f2⟩ := FL2.out.blk.three
          refine hK2 _ _ (Met.intro (hJ2 _ _ ?_))
          (repeat apply Exists.intro)
          refine ⟨?_, rfl⟩
          exact ⟨_, by rw [HA.out]; exact FL2.out⟩
      · have HA := Lib.hid (show out1 ++ Ax.cuts cut = out1 by rw [Ax.cuts, if_neg hc, List.append_nil])
        go_wp2_with fail
        go_meet
        exact ⟨_, by rw [HA.out]; exact FL1.out⟩
    case rest =>
      obtain ⟨v2, h2⟩ := hcut
      have FL2 := Lib.hid h2
      clear x0 x1 x2 f0 f1 f2
      obtain ⟨x0, x1, x2, f0, f1, f2⟩ := h2.blk.three
      clear h2 FL1
      obtain ⟨-, s1, -, -, s4, s5⟩ := (FL2.out.blk.set_ 1 (.int .i64 0)).three
      go_wp2_with fail
      refine bodyPost_end (v := .tuple #[]) (by simp [results, Tryd.results82]) rfl ?_
      exact ⟨rfl, by rw [HW.out]; exact (FL2.out.fin 0 0).to.1, (FL2.out.fin 0 0).to.2⟩
end Go.Proofs.YtjgojbkmeggmhaaDoor
