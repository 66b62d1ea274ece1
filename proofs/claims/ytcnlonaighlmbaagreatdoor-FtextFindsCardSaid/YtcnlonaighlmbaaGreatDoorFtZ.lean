/- ftext, plain: a text of characters occurs in another one between characters only. -/
import Derived.Test.YtcnlonaighlmbaaGreatDoorFtQ
import Derived.Lib.IndexMore
set_option linter.unusedSimpArgs false
set_option linter.unusedVariables false
namespace Go.Proofs.YtcnlonaighlmbaaGreatDoor
open Go.RowKit

theorem ch_shape {c : List UInt8} (h : ChOk c) : ∃ b t, c = b :: t ∧ b.toNat / 64 ≠ 2 ∧ ∀ x ∈ t, x.toNat / 64 = 2 := by
  obtain ⟨r, h1, h2, -, h4⟩ := h
  have h1 := h1 []
  rw [List.append_nil, Lib.decodeL_N] at h1
  rcases c with _ | ⟨b, t⟩
  · exact absurd h2 (by decide)
  refine ⟨b, t, rfl, ?_⟩
  have e0 : ((b :: t).getD 0 0) = b := rfl
  rw [e0] at h1
  rcases Lib.decodeN_shape (b :: t).length b.toNat ((b :: t).getD 1 0).toNat ((b :: t).getD 2 0).toNat ((b :: t).getD 3 0).toNat with ⟨c, e⟩ | ⟨c1, c2, c3, cv, e⟩ | ⟨c1, c2, c3, c4, cv, cs, e⟩ | ⟨c1, c2, c3, c4, c5, cv, cw, e⟩ | e
  · rw [e] at h1
    have hl : 1 = (b :: t).length := congrArg Prod.snd h1
    rcases t with _ | ⟨x, t⟩
    · exact ⟨by omega, fun x hx => by cases hx⟩
    · simp only [List.length_cons] at hl
      omega
  · rw [e] at h1
    have hl : 2 = (b :: t).length := congrArg Prod.snd h1
    rcases t with _ | ⟨x, _ | ⟨y, t⟩⟩
    · simp only [List.length_cons, List.length_nil] at hl
      omega
    · refine ⟨by omega, fun z hz => ?_⟩
      rw [List.mem_singleton.1 hz]
      exact c3
    · simp only [List.length_cons] at hl
      omega
  · rw [e] at h1
    have hl : 3 = (b :: t).length := congrArg Prod.snd h1
    rcases t with _ | ⟨x, _ | ⟨y, _ | ⟨z, t⟩⟩⟩
    · simp only [List.length_cons, List.length_nil] at hl
      omega
    · simp only [List.length_cons, List.length_nil] at hl
      omega
    · refine ⟨by omega, fun z hz => ?_⟩
      simp only [List.mem_cons, List.not_mem_nil, or_false] at hz
      rcases hz with rfl | rfl
      · exact c3
      · exact c4
    · simp only [List.length_cons] at hl
      omega
  · rw [e] at h1
    have hl : 4 = (b :: t).length := congrArg Prod.snd h1
    rcases t with _ | ⟨x, _ | ⟨y, _ | ⟨z, _ | ⟨u, t⟩⟩⟩⟩
    · simp only [List.length_cons, List.length_nil] at hl
      omega
    · simp only [List.length_cons, List.length_nil] at hl
      omega
    · simp only [List.length_cons, List.length_nil] at hl
      omega
    · refine ⟨by omega, fun v hv => ?_⟩
      simp only [List.mem_cons, List.not_mem_nil, or_false] at hv
      rcases hv with rfl | rfl | rfl
      · exact c3
      · exact c4
      · exact c5
    · simp only [List.length_cons] at hl
      omega
  · rw [e] at h1
    exact absurd ⟨(congrArg Prod.fst h1).symm, (congrArg Prod.snd h1).symm⟩ h4
/-- A text of characters stands at a boundary. -/
theorem bound {ds : List (List UInt8)} (hd : ChsOk ds) (hne : ds ≠ []) : ∀ (cs : List (List UInt8)) (p : Nat), ChsOk cs → ds.flatten <+: cs.flatten.drop p → ∃ n, n ≤ cs.length ∧ p = skB cs n
  | [], p, _, h => by
    rcases ds with _ | ⟨d, ds⟩
    · exact absurd rfl hne
    · obtain ⟨b, t, rfl, -, -⟩ := ch_shape (hd d (List.mem_cons_self ..))
      simp at h
  | c :: cs, p, hc, h => by
    obtain ⟨b, t, rfl, hb, ht⟩ := ch_shape (hc c (List.mem_cons_self ..))
    rcases Nat.eq_zero_or_pos p with hp | hp
    · exact ⟨0, Nat.zero_le _, by rw [hp]; rfl⟩
    · rcases Nat.lt_or_ge p (t.length + 1) with hl | hl
      · exfalso
        rcases ds with _ | ⟨d, ds⟩
        · exact hne rfl
        obtain ⟨b', t', rfl, hb', -⟩ := ch_shape (hd d (List.mem_cons_self ..))
        obtain ⟨z, hz⟩ := h
        obtain ⟨q, rfl⟩ : ∃ q, p = q + 1 := ⟨p - 1, by omega⟩
        have hq : q < t.length := by omega
        rw [List.flatten_cons, List.flatten_cons, List.cons_append, List.cons_append, List.cons_append, List.drop_succ_cons, List.drop_append_of_le_length (by omega), List.drop_eq_getElem_cons hq, List.cons_append] at hz
        injection hz with h1 h2
        rw [h1] at hb'
        exact hb' (ht _ (List.getElem_mem hq))
      · have e : ((b :: t) :: cs).flatten.drop p = cs.flatten.drop (p - (t.length + 1)) := by
          rw [List.flatten_cons, List.drop_append, List.drop_of_length_le (by simp only [List.length_cons]; omega), List.nil_append, List.length_cons]
        rw [e] at h
        obtain ⟨n, h1, h2⟩ := bound hd hne cs _ (fun x hx => hc x (List.mem_cons_of_mem _ hx)) h
        refine ⟨n + 1, by simp only [List.length_cons]; omega, ?_⟩
        have : skB ((b :: t) :: cs) (n + 1) = (t.length + 1) + skB cs n := by
          simp [skB]
          omega
        omega
theorem skB_inj {cs : List (List UInt8)} (h : ChsOk cs) {m n : Nat} (hm : m ≤ cs.length) (hn : n ≤ cs.length) (e : skB cs m = skB cs n) : m = n := by
  have mono : ∀ a b, a < b → b ≤ cs.length → skB cs a < skB cs b := fun a b hab hb => by
    have h1 := skB_add cs a 1
    have h2 := skB_add cs (a + 1) (b - (a + 1))
    have h3 := skB_succ cs (show a < cs.length by omega)
    obtain ⟨r, -, h4, -⟩ := h cs[a] (List.getElem_mem (by omega))
    rw [show a + 1 + (b - (a + 1)) = b by omega] at h2
    omega
  rcases Nat.lt_trichotomy m n with h1 | h1 | h1
  · have := mono m n h1 hn
    omega
  · exact h1
  · have := mono n m h1 hm
    omega
/-- Does the text stand behind n characters? -/
def atC (cs ds : List (List UInt8)) (n : Nat) : Bool := Lib.hasPrefix (cs.drop n).flatten ds.flatten
theorem occ_at (s p : List UInt8) (i : Nat) : Lib.occAt s p i = true ↔ p <+: s.drop i := by
  unfold Lib.occAt
  first | exact List.isPrefixOf_iff_prefix | (simp [List.isPrefixOf_iff_prefix])
theorem pre_at (s p : List UInt8) : Lib.hasPrefix s p = true ↔ p <+: s := by
  unfold Lib.hasPrefix
  exact List.isPrefixOf_iff_prefix
/-- Where it is found, and not before. -/
theorem index_at {cs ds : List (List UInt8)} (hc : ChsOk cs) (hd : ChsOk ds) {n : Nat} (hn : n ≤ cs.length) (h1 : atC cs ds n = true) (h2 : ∀ m, m < n → atC cs ds m = false) : Lib.index cs.flatten ds.flatten = (skB cs n : Int) := by
  have hle : skB cs n ≤ cs.flatten.length := by
    have := skB_le cs n
    rw [tx_size] at this
    exact this
  refine Lib.index_first hle ((occ_at _ _ _).2 (by rw [drop_flat]; exact (pre_at _ _).1 h1)) fun j hj => ?_
  cases ho : Lib.occAt cs.flatten ds.flatten j with
  | false => rfl
  | true =>
    exfalso
    have ho := (occ_at _ _ _).1 ho
    rcases Classical.em (ds = []) with rfl | hne
    · rcases Nat.eq_zero_or_pos n with rfl | hp
      · rw [skB_zero] at hj
        omega
      · have := h2 0 hp
        unfold atC at this
        rw [(pre_at _ _).2 (by simp)] at this
        cases this
    · obtain ⟨m, hm, rfl⟩ := bound hd hne cs j hc ho
      have hmn : m < n := by
        rcases Nat.lt_or_ge m n with h | h
        · exact h
        · have h3 := skB_add cs n (m - n)
          rw [show n + (m - n) = m by omega] at h3
          omega
      have h3 := h2 m hmn
      unfold atC at h3
      rw [drop_flat] at ho
      rw [(pre_at _ _).2 ho] at h3
      cases h3
theorem index_not {cs ds : List (List UInt8)} (hc : ChsOk cs) (hd : ChsOk ds) (h2 : ∀ m, m ≤ cs.length → atC cs ds m = false) : Lib.index cs.flatten ds.flatten = -1 := by
  refine Lib.index_none fun j _ => ?_
  cases ho : Lib.occAt cs.flatten ds.flatten j with
  | false => rfl
  | true =>
    exfalso
    have ho := (occ_at _ _ _).1 ho
    rcases Classical.em (ds = []) with rfl | hne
    · have := h2 0 (Nat.zero_le _)
      unfold atC at this
      rw [(pre_at _ _).2 (by simp)] at this
      cases this
    · obtain ⟨m, hm, rfl⟩ := bound hd hne cs j hc ho
      have h3 := h2 m hm
      unfold atC at h3
      rw [drop_flat] at ho
      rw [(pre_at _ _).2 ho] at h3
      cases h3
end Go.Proofs.YtcnlonaighlmbaaGreatDoor
