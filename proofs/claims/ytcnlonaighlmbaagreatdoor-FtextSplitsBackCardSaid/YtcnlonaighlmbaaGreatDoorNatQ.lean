/- Decimal numerals are read and told (plain), and the contract of exact's digits. -/
import Derived.Test.YtcnlonaighlmbaaGreatDoorNatL
import Derived.Shelf.Strings.SlTrimAscii
set_option linter.unusedSimpArgs false
set_option linter.unusedVariables false
namespace Go.Proofs.YtcnlonaighlmbaaGreatDoor
open Go.RowKit Go.Shelf

namespace Nt
open Go.Lib
theorem isD_of {n : Nat} (h : n < 10) : isD (UInt8.ofNat (48 + n)) ∧ (UInt8.ofNat (48 + n)).toNat - 48 = n := by
  have e : (UInt8.ofNat (48 + n)).toNat = 48 + n := by simp [UInt8.toNat_ofNat]; omega
  exact ⟨⟨by rw [e]; omega, by rw [e]; omega⟩, by rw [e]; omega⟩
theorem dd_law : ∀ (m n : Nat), n ≤ m → allD (decDigits n) ∧ dval (decDigits n) = n
  | m, n, hm => by
    by_cases h : n < 10
    · rw [decDigits_one h]
      refine ⟨fun c hc => by obtain rfl := List.mem_singleton.1 hc; exact (isD_of h).1, ?_⟩
      have := (isD_of h).2
      simp [dval]; simpa using this
    · match m, hm with
      | 0, hm => omega
      | m + 1, hm =>
        have e : decDigits n = decDigits (n / 10) ++ [UInt8.ofNat (48 + n % 10)] := by rw [decDigits, dif_neg h]
        have hd : n % 10 < 10 := Nat.mod_lt _ (by omega)
        obtain ⟨h1, h2⟩ := dd_law m (n / 10) (by omega)
        rw [e]
        refine ⟨fun c hc => ?_, ?_⟩
        · rcases List.mem_append.1 hc with h | h
          · exact h1 c h
          · obtain rfl := List.mem_singleton.1 h
            exact (isD_of hd).1
        · rw [dval_append, h2]
          have e2 : dval [UInt8.ofNat (48 + n % 10)] = n % 10 := by
            have := (isD_of hd).2
            simp only [dval, List.foldl_cons, List.foldl_nil]
            omega
          rw [e2]
          simp
          omega
theorem allD_dd (n : Nat) : allD (decDigits n) := (dd_law n n (Nat.le_refl _)).1
theorem dval_dd (n : Nat) : dval (decDigits n) = n := (dd_law n n (Nat.le_refl _)).2
theorem dval_cons (c : UInt8) (t : List UInt8) : dval (c :: t) = (c.toNat - 48) * 10 ^ t.length + dval t := by
  have := dval_append [c] t
  simpa [dval] using this
theorem ofNat_sub {c : UInt8} (h : isD c) : UInt8.ofNat (48 + (c.toNat - 48)) = c := by
  have e : 48 + (c.toNat - 48) = c.toNat := by have := h.1; omega
  rw [e]
  simp
/-- No wrong zero. -/
theorem dd_dval : ∀ (k : Nat) (l : List UInt8), l.length = k → allD l → l ≠ [] → (1 < l.length → l.head? ≠ some 48) → decDigits (dval l) = l
  | k, l, hk, ha, h0, hz => by
    rcases List.eq_nil_or_concat l with rfl | ⟨t, c, rfl⟩
    · exact absurd rfl h0
    · have hc : isD c := ha c (by simp)
      have hc9 : c.toNat - 48 < 10 := by have := hc.2; omega
      have e : dval (t.concat c) = dval t * 10 + (c.toNat - 48) := by
        rw [List.concat_eq_append, dval_append]
        simp [dval]
      rw [e]
      cases t with
      | nil =>
        have e0 : dval [] * 10 + (c.toNat - 48) = c.toNat - 48 := by simp [dval]
        rw [e0, decDigits_one hc9, ofNat_sub hc]
        rfl
      | cons x t =>
        match k, hk with
        | 0, hk => simp at hk
        | k + 1, hk =>
          have hx : x ≠ 48 := by
            have := hz (by simp)
            intro e; exact this (by simp [e])
          have hxD : isD x := ha x (by simp)
          have hx1 : 1 ≤ x.toNat - 48 := by
            have h1 := hxD.1
            rcases Nat.lt_or_ge 48 x.toNat with h | h
            · omega
            · exact absurd (UInt8.toNat_inj.1 (by show x.toNat = 48; omega)) hx
          have hv : 1 ≤ dval (x :: t) := by
            rw [dval_cons]
            have hp : 1 ≤ 10 ^ t.length := Nat.one_le_pow _ _ (by decide)
            have := Nat.mul_le_mul hx1 hp
            omega
          have ih := dd_dval k (x :: t) (by simpa using hk) (fun y hy => ha y (by simp [List.concat_eq_append]; simp at hy; rcases hy with h | h; exact .inl h; exact .inr (.inl h))) (by simp) (fun _ => by simp; exact hx)
          rw [decDigits, dif_neg (by omega)]
          have e1 : (dval (x :: t) * 10 + (c.toNat - 48)) / 10 = dval (x :: t) := by omega
          have e2 : (dval (x :: t) * 10 + (c.toNat - 48)) % 10 = c.toNat - 48 := by omega
          rw [e1, e2, ih, ofNat_sub hc, List.concat_eq_append]
/-- A numeral. -/
def Dn (l : List UInt8) : Prop := ∃ n, l = decDigits n
theorem dd_ne (n : Nat) : decDigits n ≠ [] := by
  intro e
  have := dd_pos n
  rw [e] at this
  simp at this
theorem dd_head (n : Nat) (h : 1 < (decDigits n).length) : (decDigits n).head? ≠ some 48 := by
  intro e
  have h1 : ∃ t, decDigits n = 48 :: t := by
    cases hd : decDigits n with
    | nil => exact absurd hd (dd_ne n)
    | cons c t => rw [hd] at e; simp at e; exact ⟨t, by rw [e]⟩
  obtain ⟨t, ht⟩ := h1
  have ha := allD_dd n
  have hv := dval_dd n
  rw [ht] at ha hv h
  rw [dval_cons] at hv
  have hlt := dval_lt (l := t) (fun c hc => ha c (by simp [hc]))
  have hl : (decDigits n).length ≤ t.length := by
    obtain ⟨j, hj⟩ : ∃ j, t.length = j + 1 := ⟨t.length - 1, by simp at h; omega⟩
    rw [hj]
    refine dd_le ?_
    rw [← hj]
    have : (48 : UInt8).toNat = 48 := rfl
    rw [this] at hv
    omega
  rw [ht] at hl
  simp at hl
  omega
theorem dn_iff {l : List UInt8} : Dn l ↔ allD l ∧ l ≠ [] ∧ (1 < l.length → l.head? ≠ some 48) :=
  ⟨fun ⟨n, e⟩ => by subst e; exact ⟨allD_dd n, dd_ne n, dd_head n⟩, fun ⟨h1, h2, h3⟩ => ⟨dval l, (dd_dval _ l rfl h1 h2 h3).symm⟩⟩

def ten10 : List UInt8 := [48, 49, 50, 51, 52, 53, 54, 55, 56, 57]
theorem ten10_iff (c : UInt8) : ten10.contains c = true ↔ isD c := by
  constructor
  · intro h
    simp [ten10] at h
    rcases h with h | h | h | h | h | h | h | h | h | h <;> (subst h; unfold isD; decide)
  · intro ⟨h1, h2⟩
    have : ∀ n : Fin 58, 48 ≤ n.val → ten10.contains (UInt8.ofNat n.val) = true := by decide
    have := this ⟨c.toNat, by omega⟩ h1
    simpa using this
theorem dropWhile_nil {α : Type} (p : α → Bool) : ∀ l : List α, l.dropWhile p = [] ↔ ∀ x ∈ l, p x = true
  | [] => by simp
  | x :: t => by
    rw [List.dropWhile_cons]
    by_cases h : p x = true
    · simp [h, dropWhile_nil p t]
    · simp [h]
theorem trim_nil (l : List UInt8) : Lib.trimS l ten10 = [] ↔ allD l := by
  unfold Lib.trimS Lib.trimLeftS Lib.trimRightS
  rw [dropWhile_nil]
  constructor
  · intro h c hc
    rw [← ten10_iff]
    by_cases hr : l.reverse.dropWhile (ten10.contains ·) = []
    · rw [dropWhile_nil] at hr
      exact hr c (by simpa using hc)
    · cases hd : l.reverse.dropWhile (ten10.contains ·) with
      | nil => exact absurd hd hr
      | cons x t =>
        have h1 : ten10.contains x = true := h x (by rw [hd]; simp)
        have h2 := List.head?_dropWhile_not (ten10.contains ·) l.reverse
        rw [hd] at h2
        simp at h2
        simp [h2] at h1
  · intro h
    have : l.reverse.dropWhile (ten10.contains ·) = [] := by
      rw [dropWhile_nil]
      intro c hc
      exact (ten10_iff c).2 (h c (by simpa using hc))
    rw [this]
    simp
end Nt

set_option maxRecDepth 100000 in
theorem trim_v (s : ByteArray) (w : World) (hs : s.size ≤ 9223372036854775807) :
    Calls Tryz.prog 102 #[.string s, .string ⟨#[48, 49, 50, 51, 52, 53, 54, 55, 56, 57]⟩] w fun e w' => e = .returned (.string ⟨(Lib.trimS s.data.toList Nt.ten10).toArray⟩) ∧ Below w.heap.size w w' :=
  Any.strings_Trim_laid Tryz.lays160 (by kernel_rfl) s ⟨#[48, 49, 50, 51, 52, 53, 54, 55, 56, 57]⟩ w hs (by decide) (ascii_of_all (by decide))

def DigRet (l : List UInt8) (w : World) (e : Ending) (w' : World) : Prop := ∃ b : Bool, e = .returned (.bool b) ∧ (b = true ↔ Nt.Dn l) ∧ Below w.heap.size w w'

set_option maxRecDepth 100000 in
theorem digits_any (s : ByteArray) (w : World) (hs : s.size ≤ 9223372036854775807) :
    Calls Tryz.prog 88 #[.string s] w (DigRet s.data.toList w) := by
  have HT := Lib.hid (trim_v s w hs)
  have htn := Nt.trim_nil s.data.toList
  have HN := Lib.hid htn
  clear htn
  obtain ⟨⟨l⟩⟩ := s
  cases l with
  | nil =>
    go_enter Tryz.func88, Tryz.ntmps88
    go_wp2
    go_ret
    exact ⟨false, rfl, ⟨fun h => (by cases h), fun h => absurd rfl (Nt.dn_iff.1 h).2.1⟩, Below.refl _ _⟩
  | cons c t =>
    have key : (1 < (c :: t).length → c ≠ 48) → ((Lib.trimS (c :: t) Nt.ten10).isEmpty = true ↔ Nt.Dn (c :: t)) := fun h => by
      rw [List.isEmpty_iff, HN.out, Nt.dn_iff]
      exact ⟨fun h1 => ⟨h1, by simp, fun h2 e => h h2 (by simpa using e)⟩, fun h1 => h1.1⟩
    go_enter Tryz.func88, Tryz.ntmps88
    go_wp2_with (go_at_call 102; refine HT.out.mono ?_; rintro e w2 ⟨rfl, hb⟩)
    · rename ((_ : Nat) : Int) = 48 => h1
      have h1' : (c.toNat : Int) = 48 := h1
      have h2 : 1 < (t.length : Int) + 1 := by assumption
      go_ret
      refine ⟨false, rfl, ⟨fun h => (by cases h), fun h => absurd ?_ ((Nt.dn_iff.1 h).2.2 (by simp; omega))⟩, Below.refl _ _⟩
      have e : c = 48 := UInt8.toNat_inj.1 (by show c.toNat = 48; omega)
      rw [e]
      rfl
    · have h2 : (t.length : Int) + 1 ≤ 1 := by assumption
      go_ret
      exact ⟨_, rfl, key (fun h => by simp at h; omega), hb⟩
    · rename ¬ ((_ : Nat) : Int) = 48 => h1
      have h1' : ¬ (c.toNat : Int) = 48 := h1
      go_ret
      exact ⟨_, rfl, key (fun _ e => h1' (by rw [e]; rfl)), hb⟩
end Go.Proofs.YtcnlonaighlmbaaGreatDoor
