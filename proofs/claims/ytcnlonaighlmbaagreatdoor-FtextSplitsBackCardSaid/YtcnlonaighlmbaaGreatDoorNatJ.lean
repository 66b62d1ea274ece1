/- The contract of exact's parse: digits are read. -/
import Derived.Test.YtcnlonaighlmbaaGreatDoorHac
import Derived.Test.YtcnlonaighlmbaaGreatDoorShelf
import Derived.Lib.Atoi
import Derived.Lib.AtoiErrMem
import Derived.Lib.IndexBytes
set_option linter.unusedSimpArgs false
set_option linter.unusedVariables false
namespace Go.Proofs.YtcnlonaighlmbaaGreatDoor
open Go.RowKit

namespace Nt
/-- A decimal digit. -/
def isD (c : UInt8) : Prop := 48 ≤ c.toNat ∧ c.toNat ≤ 57
def allD (l : List UInt8) : Prop := ∀ c ∈ l, isD c
/-- The value of decimal digits, the leading one first. -/
def dval (l : List UInt8) : Nat := l.foldl (fun n c => n * 10 + (c.toNat - 48)) 0
theorem dval_from : ∀ (l : List UInt8) (a : Nat), l.foldl (fun n c => n * 10 + (c.toNat - 48)) a = a * 10 ^ l.length + dval l
  | [], a => by simp [dval]
  | c :: t, a => by
    unfold dval
    rw [List.foldl_cons, List.foldl_cons, dval_from t, dval_from t (0 * 10 + (c.toNat - 48)), List.length_cons, Nat.pow_succ]
    rw [Nat.add_mul, Nat.mul_assoc, Nat.mul_comm 10, Nat.zero_mul, Nat.zero_add]
    omega
theorem dval_append (a b : List UInt8) : dval (a ++ b) = dval a * 10 ^ b.length + dval b := by
  unfold dval
  rw [List.foldl_append]
  exact dval_from b _
theorem dval_lt : ∀ {l : List UInt8}, allD l → dval l < 10 ^ l.length := by
  intro l
  induction l with
  | nil => intro _; simp [dval]
  | cons c t ih =>
    intro h
    have h1 := ih (fun x hx => h x (by simp [hx]))
    have h2 := h c (by simp)
    have e : dval (c :: t) = (c.toNat - 48) * 10 ^ t.length + dval t := by
      have := dval_append [c] t
      simpa [dval] using this
    rw [e, List.length_cons, Nat.pow_succ]
    have h3 : (c.toNat - 48) * 10 ^ t.length ≤ 9 * 10 ^ t.length := Nat.mul_le_mul_right _ (by have := h2.1; have := h2.2; omega)
    omega
theorem decFrom_dval : ∀ (l : List UInt8) (a : Nat), allD l → Lib.decFrom a l = some (l.foldl (fun n c => n * 10 + (c.toNat - 48)) a)
  | [], a, _ => rfl
  | c :: t, a, h => by
    have h2 := h c (by simp)
    have hd : Lib.digitVal c = some (c.toNat - 48) := by
      unfold Lib.digitVal; rw [if_pos ⟨h2.1, h2.2⟩]
    simp only [Lib.decFrom, hd, List.foldl_cons]
    exact decFrom_dval t _ fun x hx => h x (by simp [hx])
theorem atoi_dval {l : List UInt8} (h : allD l) (h0 : l ≠ []) : Lib.atoi l = some (dval l : Int) := by
  cases l with
  | nil => exact absurd rfl h0
  | cons c t =>
    have h2 := h c (by simp)
    have h45 : (c == 45) = false := by
      rw [beq_eq_false_iff_ne]; rintro rfl; exact absurd h2.1 (by decide)
    have h43 : (c == 43) = false := by
      rw [beq_eq_false_iff_ne]; rintro rfl; exact absurd h2.1 (by decide)
    simp only [Lib.atoi, h45, h43, Lib.decNat, List.isEmpty_cons, Bool.false_eq_true, if_false, decFrom_dval _ _ h, Option.map_some]
    rfl
theorem allD_take {l : List UInt8} (h : allD l) (k : Nat) : allD (l.take k) := fun c hc => h c (List.mem_of_mem_take hc)
theorem allD_drop {l : List UInt8} (h : allD l) (k : Nat) : allD (l.drop k) := fun c hc => h c (List.mem_of_mem_drop hc)

/-- What is read behind some chunks: m bytes are left. -/
structure ReadAt (l : List UInt8) (m : Nat) (O : List Nat) : Prop where
  le : m ≤ l.length
  dg : dig O
  eq : dval l = dval (l.take m) * B ^ O.length + val O
  len : O.length ≤ l.length - m
theorem ReadAt.start (l : List UInt8) : ReadAt l l.length [] := ⟨Nat.le_refl _, dig_nil, by simp [val], by simp⟩
theorem ReadAt.step {l : List UInt8} {m k : Nat} {O : List Nat} (h : ReadAt l m O) (hl : allD l) (hk : k = m - 9) (hm : 0 < m) :
    dval ((l.take m).drop k) < B ∧ ReadAt l k (O ++ [dval ((l.take m).drop k)]) := by
  have hle := h.le
  have hlen : ((l.take m).drop k).length = m - k := by simp; omega
  have hlt := dval_lt (allD_drop (allD_take hl m) k)
  rw [hlen] at hlt
  have hp : 10 ^ (m - k) ≤ 10 ^ 9 := Nat.pow_le_pow_right (by decide) (by omega)
  have hB : (10 : Nat) ^ 9 = B := by decide
  refine ⟨by omega, by omega, dig_append h.dg (dig_one (by omega)), ?_, by rw [List.length_append, List.length_singleton]; have := h.len; omega⟩
  have e1 : l.take m = l.take k ++ (l.take m).drop k := by
    have : l.take k = (l.take m).take k := by rw [List.take_take, Nat.min_eq_left (by omega)]
    rw [this, List.take_append_drop]
  have e2 := dval_append (l.take k) ((l.take m).drop k)
  rw [← e1, hlen] at e2
  rw [h.eq, e2, val_snoc, List.length_append, List.length_singleton, Nat.pow_succ]
  rcases Nat.eq_zero_or_pos k with hz | hz
  · subst hz
    simp only [List.take_zero]
    have : dval [] = 0 := rfl
    rw [this, Nat.zero_mul, Nat.zero_mul, Nat.zero_add, Nat.zero_add, Nat.mul_comm]
    omega
  · have : m - k = 9 := by omega
    rw [this, hB, Nat.add_mul, Nat.mul_assoc, Nat.mul_comm B (B ^ O.length), Nat.mul_comm (dval ((l.take m).drop k))]
    omega
end Nt

theorem atoi_any (t : ByteArray) (l : List UInt8) (w : World) (ht : t.data.toList = l) (hl : l.length ≤ 18) (h : Nt.allD l) (h0 : l ≠ []) :
    Calls Tryz.prog 21 #[.string t] w fun e w' => e = .returned (.tuple #[.int .i64 (Nt.dval l : Int), .nilIface]) ∧ Below w.heap.size w w' := by
  subst ht
  refine (Tryz.strconv_Atoi t _ (by simpa using hl) (Nt.atoi_dval h h0) w).mono fun e w' ⟨he, u, hu⟩ => ⟨he, ?_⟩
  rw [hu]
  exact Lib.bytesWorld_below _ _ _

set_option maxRecDepth 100000 in
set_option maxHeartbeats 1000000 in
theorem parse_any (s : ByteArray) (l : List UInt8) (w : World) (hs : s.data.toList = l) (h : Nt.allD l) (hl : l.length ≤ 800000) :
    Calls Tryz.prog 89 #[.string s] w fun e w' => ∃ v, e = .returned v ∧ Nv w' v (Nt.digs (Nt.dval l)) ∧ Below w.heap.size w w' := by
  have HS := Lib.hid hs
  have HH := Lib.hid h
  clear hs h
  go_enter Tryz.func89, Tryz.ntmps89
  go_wp2
  go_loopw [0, 3] (fun s0 s3 wr => ∃ (m : Nat) (t : ByteArray) (O : List Nat), s0 = .string t ∧ t.size = m ∧ t.data.toList = l.take m ∧ Own wr w.heap.size s3 O ∧ Nt.ReadAt l m O ∧ Below w.heap.size w wr) (fun s0 _ _ => match s0 with | .string t => t.size | _ => 0)
  case atStart =>
    refine ⟨l.length, s, [], rfl, ?_, by rw [List.take_length]; exact HS.out, Own.nil _ _, Nt.ReadAt.start l, Below.refl _ _⟩
    have := congrArg List.length HS.out
    simpa using this
  case round =>
    obtain ⟨m, t, O, rfl, htm, htl, hown, hread, hbel⟩ := hrel
    have hle := hread.le
    have hOl := hread.len
    have HTL := Lib.hid htl
    have HTM := Lib.hid htm
    have HR := Lib.hid hread
    have HOwn := Lib.hid hown
    have HBel := Lib.hid hbel
    rcases Nat.eq_zero_or_pos m with hz | hpos
    · have htz : ¬ (0 : Int) < t.size := by omega
      have e : Nt.trimL O = Nt.digs (Nt.dval l) := by
        have e1 := hread.eq
        rw [hz] at e1
        have : Nt.dval (l.take 0) = 0 := rfl
        rw [this, Nat.zero_mul, Nat.zero_add] at e1
        rw [e1, ← Nt.digs_val (Nt.trimL_canon hread.dg), Nt.trimL_val hread.dg]
      have htr := fun W v h => trim_any v W O.length O rfl h hread.dg
      rw [e] at htr
      have HT := Lib.hid htr
      have hn := hown.nv (by omega)
      have HN := Lib.hid hn
      clear htr e hread htl hown hbel htm hn hz
      go_wp2_with (go_at_call 136; refine (HT.out _ _ HN.out).mono ?_; rintro e w2 ⟨v2, rfl, hn2, rfl⟩)
      go_ret
      exact ⟨v2, rfl, hn2, HBel.out⟩
    · have htp : (0 : Int) < t.size := by omega
      obtain ⟨k, hk⟩ : ∃ k, k = m - 9 := ⟨_, rfl⟩
      obtain ⟨hc, hst⟩ := hread.step HH.out hk hpos
      have hkm : k < m := by omega
      have hkt : k ≤ t.size := by omega
      have hmax : max (0 : Int) ((t.size : Int) - 9) = k := by omega
      have hx1 : t.extract k t.size = ⟨((l.take m).drop k).toArray⟩ := by
        rw [Lib.extract_eq, HTL.out, List.take_of_length_le (by simp; omega)]
      have hx2 : (t.extract 0 k).data.toList = l.take k := by
        rw [Lib.extract_eq, HTL.out]
        show ((l.take m).drop 0).take (k - 0) = _
        rw [List.drop_zero, Nat.sub_zero, List.take_take, Nat.min_eq_left (by omega)]
      have hx3 : (t.extract 0 k).size = k := by
        have := congrArg List.length hx2
        simp at this ⊢; omega
      have hat := fun W => atoi_any ⟨((l.take m).drop k).toArray⟩ ((l.take m).drop k) W rfl (by simp; omega) (Nt.allD_drop (Nt.allD_take HH.out m) k) (by
        intro e; have := congrArg List.length e; simp at this; omega)
      rw [← hx1] at hat
      have HAT := Lib.hid hat
      have HX2 := Lib.hid hx2
      have HX3 := Lib.hid hx3
      have HST := Lib.hid hst
      have hbz := hbel.size
      have HK := Lib.hid hk
      clear hread htl hown hbel htm hat hx1 hx2 hx3 hst hk
      unfold Nt.B at hc
      generalize Nt.dval ((l.take m).drop k) = x at *
      go_wp2_with (first | (go_at_call 21; refine (HAT.out _).mono ?_; rintro e w2 ⟨rfl, hb2⟩; have hB2 := below_tr HBel.out hb2; have hO2 := HOwn.out.later hb2; have hz2 := hB2.size) | (at_builtin; refine wp_app1 rfl _ _ rfl w.heap.size _ O rfl hO2 _ x ?_ rfl ?_ hz2 ?_; (go_num); (omega); intro v3 w3 ho3 hb3 _))
      go_roundw
      case rel => exact ⟨k, _, _, rfl, HX3.out, HX2.out, ho3, HST.out, hB2.trans hb3⟩
      case measure => simp; omega
end Go.Proofs.YtcnlonaighlmbaaGreatDoor
