/- axis: Join's state. -/
import Derived.Test.YtjgojbkmeggmhaaDoorAxE
namespace Go.Proofs.YtjgojbkmeggmhaaDoor
open Go.RowKit

namespace Ax
/-- What a reader still has: of its first step u have been taken. -/
def cur (l : List Step) (u : Int) : List Step := match l with
  | [] => []
  | (k, n) :: t => (k, n - u) :: t
/-- A reader's state. -/
def Rst (l : List Step) (u : Int) : Prop := (∀ s ∈ l, okS s) ∧ 0 ≤ u ∧ (∀ k n t, l = (k, n) :: t → u < n)
theorem Rst.start {l : List Step} (h : ∀ s ∈ l, okS s) : Rst l 0 := ⟨h, Int.le_refl _, fun k n t e => by
  have := (h (k, n) (by rw [e]; exact List.mem_cons_self ..)).2.2.1
  dsimp only at this; omega⟩
theorem cur_zero (l : List Step) : cur l 0 = l := by
  cases l with
  | nil => rfl
  | cons s t => obtain ⟨k, n⟩ := s; simp [cur]
theorem cur_ok {l : List Step} {u : Int} (h : Rst l u) : ∀ s ∈ cur l u, okS s := by
  cases l with
  | nil => intro s hs; cases hs
  | cons s t =>
    obtain ⟨k, n⟩ := s
    intro s hs
    have h1 := h.2.2 k n t rfl
    have h2 := h.2.1
    obtain ⟨a1, a2, a3, a4⟩ := h.1 (k, n) (List.mem_cons_self ..)
    dsimp only at a1 a2 a3 a4
    rcases List.mem_cons.1 hs with rfl | hs
    · exact ⟨a1, a2, by dsimp only; omega, by dsimp only; omega⟩
    · exact h.1 s (List.mem_cons_of_mem _ hs)
theorem cur_len (l : List Step) (u : Int) : (cur l u).length = l.length := by
  cases l with
  | nil => rfl
  | cons s t => rfl
theorem kd_cur (l : List Step) (u : Int) : kd (cur l u) = kd l := by
  cases l with
  | nil => rfl
  | cons s t => rfl
theorem puts_cons (w : Wr) (k n : Int) (l : List Step) : puts w ((k, n) :: l) = puts (w.put k n) l := rfl
/-- The tests of a round. -/
theorem jn_end (f : Nat) : jn f [] [] = [] := by cases f <;> simp [jn]
theorem jn_cut {f : Nat} {n : Int} {t b : List Step} : jn (f + 1) ((2, n) :: t) b = (2, n) :: jn f t b := by
  rw [jn, if_neg (by simp), if_pos (show kd ((2, n) :: t) = 2 from rfl)]; rfl
theorem jn_add {f : Nat} {a t : List Step} {n : Int} (h : kd a ≠ 2) : jn (f + 1) a ((1, n) :: t) = (1, n) :: jn f a t := by
  rw [jn, if_neg (by simp), if_neg h, if_pos (show kd ((1, n) :: t) = 1 from rfl)]; rfl
theorem jn_mix {f : Nat} {k n j m : Int} {t s : List Step} (h : k ≠ 2) (h2 : j ≠ 1) :
    jn (f + 1) ((k, n) :: t) ((j, m) :: s) = mix k j (min n m) ++ jn f (dec ((k, n) :: t) (min n m)) (dec ((j, m) :: s) (min n m)) := by
  rw [jn, if_neg (by simp), if_neg (show ¬ kd ((k, n) :: t) = 2 from h), if_neg (show ¬ kd ((j, m) :: s) = 1 from h2)]
  rfl
end Ax

/-- The taken step. -/
theorem take_st (w0 w : World) (p : Nat) (v : Value) (u k n m : Int) (t : List Ax.Step) (hb : Blk w p 93 #[v, .int .i64 u]) (hv0 : Steps w0 v ((k, n) :: t)) (hbel : Below w0.heap.size w0 w) (hp : w0.heap.size ≤ p) (hl : t.length ≤ 10000000000) (hr : Ax.Rst ((k, n) :: t) u) (h1 : 1 ≤ m) (h3 : m ≤ n - u) :
    Calls Tryd.prog 40 #[.pointer (some ⟨p, 0, none⟩), .int .i64 m] w fun e w' => ∃ v' u' l', e = .returned (.tuple #[]) ∧ Bx p w.heap.size w w' ∧
      Blk w' p 93 #[v', .int .i64 u'] ∧ Steps w0 v' l' ∧ Ax.Rst l' u' ∧ Ax.cur l' u' = Ax.dec ((k, n - u) :: t) m ∧ l'.length ≤ t.length + 1 ∧ (m = n - u → l' = t ∧ u' = 0) := by
  have o := hr.1 (k, n) (List.mem_cons_self ..)
  obtain ⟨o1, o2, o3, o4⟩ := o
  dsimp only at o1 o2 o3 o4
  have hu := hr.2.1
  refine (take_any w0 w p v u k n m t hb hv0 hbel hp (by omega) hu (by omega) (by omega) (by omega)).mono ?_
  rintro e w' ⟨rfl, hbx, ⟨h4, h5⟩ | ⟨h4, v', h5, h6⟩⟩
  · refine ⟨v, u + m, (k, n) :: t, rfl, hbx, h5, hv0, ⟨hr.1, by omega, fun k' n' t' e => ?_⟩, ?_, Nat.le_refl _, fun e => by omega⟩
    · injection e with e1 _
      injection e1 with _ e2
      omega
    · unfold Ax.cur Ax.dec
      dsimp only
      rw [if_neg (by omega), show n - (u + m) = n - u - m by omega]
  · refine ⟨v', 0, t, rfl, hbx, h5, h6, Ax.Rst.start fun s hs => hr.1 s (List.mem_cons_of_mem _ hs), ?_, Nat.le_succ _, fun _ => ⟨rfl, rfl⟩⟩
    rw [Ax.cur_zero]
    unfold Ax.dec
    dsimp only
    rw [if_pos (by omega)]

/-- Join's memory: the writer at z, the readers behind it. -/
structure Js (w0 w : World) (W : Ax.Wr) (va : Value) (ua : Int) (la : List Ax.Step) (vb : Value) (ub : Int) (lb : List Ax.Step) : Prop where
  wr : WrAt w w0.heap.size (w0.heap.size + 3) W
  a : Blk w (w0.heap.size + 1) 93 #[va, .int .i64 ua]
  b : Blk w (w0.heap.size + 2) 93 #[vb, .int .i64 ub]
  sa : Steps w0 va la
  sb : Steps w0 vb lb
  ra : Ax.Rst la ua
  rb : Ax.Rst lb ub
  bel : Below w0.heap.size w0 w
section
variable {w0 w w' : World} {W W' : Ax.Wr} {va vb va' vb' : Value} {ua ub ua' ub' : Int} {la lb la' lb' : List Ax.Step}
theorem Js.below (h : Js w0 w W va ua la vb ub lb) (hb : Below w.heap.size w w') : Js w0 w' W va ua la vb ub lb :=
  ⟨h.wr.below hb, h.a.later hb, h.b.later hb, h.sa, h.sb, h.ra, h.rb, h.bel.trans (hb.mono h.bel.size)⟩
theorem Js.put (h : Js w0 w W va ua la vb ub lb) (hw : WrAt w' w0.heap.size (w0.heap.size + 3) W') (hb : Bx w0.heap.size (w0.heap.size + 3) w w') : Js w0 w' W' va ua la vb ub lb :=
  ⟨hw, h.a.bx hb (by omega) (by omega), h.b.bx hb (by omega) (by omega), h.sa, h.sb, h.ra, h.rb, h.bel.trans (hb.below (by omega) (Nat.le_refl _))⟩
theorem Js.takeA (h : Js w0 w W va ua la vb ub lb) (hb : Bx (w0.heap.size + 1) w.heap.size w w') (hk : Blk w' (w0.heap.size + 1) 93 #[va', .int .i64 ua']) (hs : Steps w0 va' la') (hr : Ax.Rst la' ua') : Js w0 w' W va' ua' la' vb ub lb :=
  ⟨h.wr.bx hb (by omega) (by omega), hk, h.b.bx hb h.b.lt (by omega), hs, h.sb, hr, h.rb, h.bel.trans (hb.below h.bel.size (by omega))⟩
theorem Js.takeB (h : Js w0 w W va ua la vb ub lb) (hb : Bx (w0.heap.size + 2) w.heap.size w w') (hk : Blk w' (w0.heap.size + 2) 93 #[vb', .int .i64 ub']) (hs : Steps w0 vb' lb') (hr : Ax.Rst lb' ub') : Js w0 w' W va ua la vb' ub' lb' :=
  ⟨h.wr.bx hb (by omega) (by omega), h.a.bx hb h.a.lt (by omega), hk, h.sa, hs, h.ra, hr, h.bel.trans (hb.below h.bel.size (by omega))⟩
theorem Js.start (w0 : World) (ha : Steps w0 va la) (hb : Steps w0 vb lb) (oa : ∀ s ∈ la, Ax.okS s) (ob : ∀ s ∈ lb, Ax.okS s) :
    Js w0 (((w0.alloc (.cells #[.slice none 0 0, .int .i64 0, .int .i64 0] 90)).alloc (.cells #[va, .int .i64 0] 93)).alloc (.cells #[vb, .int .i64 0] 93)) Ax.Wr.zero va 0 la vb 0 lb := by
  have b0 := Blk.new w0 90 #[.slice none 0 0, .int .i64 0, .int .i64 0]
  have b1 := Blk.new (w0.alloc (.cells #[.slice none 0 0, .int .i64 0, .int .i64 0] 90)) 93 #[va, .int .i64 0]
  have b2 := Blk.new ((w0.alloc (.cells #[.slice none 0 0, .int .i64 0, .int .i64 0] 90)).alloc (.cells #[va, .int .i64 0] 93)) 93 #[vb, .int .i64 0]
  have e1 : (w0.alloc (.cells #[.slice none 0 0, .int .i64 0, .int .i64 0] 90)).heap.size = w0.heap.size + 1 := by simp
  have e2 : ((w0.alloc (.cells #[.slice none 0 0, .int .i64 0, .int .i64 0] 90)).alloc (.cells #[va, .int .i64 0] 93)).heap.size = w0.heap.size + 2 := by simp
  rw [e1] at b1
  rw [e2] at b2
  refine ⟨⟨by omega, by simp, _, (b0.alloc _).alloc _, RowOf.nil _ _⟩, b1.alloc _, b2, ha, hb, Ax.Rst.start oa, Ax.Rst.start ob, ?_⟩
  exact (((Below.refl _ _).alloc (Nat.le_refl _) _).alloc (by simp) _).alloc (by simp; omega) _
end
end Go.Proofs.YtjgojbkmeggmhaaDoor
