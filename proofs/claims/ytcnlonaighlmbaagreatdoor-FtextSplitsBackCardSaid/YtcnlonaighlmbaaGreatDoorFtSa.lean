/- ftext, plain: a text of characters occurs in another one between characters only. -/
import Derived.Test.YtcnlonaighlmbaaGreatDoorFtQ
import Derived.Lib.IndexMore
import Derived.Lib.Replace
import Derived.Lib.Join
import Derived.Test.YtcnlonaighlmbaaGreatDoorFtO
import Derived.Lib.SplitLaws
import Derived.Lib.ReplaceLaws
set_option linter.unusedSimpArgs false
set_option linter.unusedVariables false
namespace Go.Proofs.YtcnlonaighlmbaaGreatDoor
open Go.RowKit

theorem ch_shape {c : List UInt8} (h : ChOk c) : ∃ b t, c = b :: t ∧ b.toNat / 64 ≠ 2 ∧ ∀ x ∈ t, x.toNat / 64 = 2 := by
  obtain ⟨r, h1, h2, -, h4⟩ := h
  have h1 := h1 []
  rw [List.append_nil, Lib.decodeL_N] at h1
  rcases c with _ | ⟨b, t⟩
  · exact absurd h2 (by decide)
  refine ⟨b, t, rfl, ?_⟩
  have e0 : ((b :: t).getD 0 0) = b := rfl
  rw [e0] at h1
  rcases Lib.decodeN_shape (b :: t).length b.toNat ((b :: t).getD 1 0).toNat ((b :: t).getD 2 0).toNat ((b :: t).getD 3 0).toNat with ⟨c, e⟩ | ⟨c1, c2, c3, cv, e⟩ | ⟨c1, c2, c3, c4, cv, cs, e⟩ | ⟨c1, c2, c3, c4, c5, cv, cw, e⟩ | e
  · rw [e] at h1
    have hl : 1 = (b :: t).length := congrArg Prod.snd h1
    rcases t with _ | ⟨x, t⟩
    · exact ⟨by omega, fun x hx => by cases hx⟩
    · simp only [List.length_cons] at hl
      omega
  · rw [e] at h1
    have hl : 2 = (b :: t).length := congrArg Prod.snd h1
    rcases t with _ | ⟨x, _ | ⟨y, t⟩⟩
    · simp only [List.length_cons, List.length_nil] at hl
      omega
    · refine ⟨by omega, fun z hz => ?_⟩
      rw [List.mem_singleton.1 hz]
      exact c3
    · simp only [List.length_cons] at hl
      omega
  · rw [e] at h1
    have hl : 3 = (b :: t).length := congrArg Prod.snd h1
    rcases t with _ | ⟨x, _ | ⟨y, _ | ⟨z, t⟩⟩⟩
    · simp only [List.length_cons, List.length_nil] at hl
      omega
    · simp only [List.length_cons, List.length_nil] at hl
      omega
    · refine ⟨by omega, fun z hz => ?_⟩
      simp only [List.mem_cons, List.not_mem_nil, or_false] at hz
      rcases hz with rfl | rfl
      · exact c3
      · exact c4
    · simp only [List.length_cons] at hl
      omega
  · rw [e] at h1
    have hl : 4 = (b :: t).length := congrArg Prod.snd h1
    rcases t with _ | ⟨x, _ | ⟨y, _ | ⟨z, _ | ⟨u, t⟩⟩⟩⟩
    · simp only [List.length_cons, List.length_nil] at hl
      omega
    · simp only [List.length_cons, List.length_nil] at hl
      omega
    · simp only [List.length_cons, List.length_nil] at hl
      omega
    · refine ⟨by omega, fun v hv => ?_⟩
      simp only [List.mem_cons, List.not_mem_nil, or_false] at hv
      rcases hv with rfl | rfl | rfl
      · exact c3
      · exact c4
      · exact c5
    · simp only [List.length_cons] at hl
      omega
  · rw [e] at h1
    exact absurd ⟨(congrArg Prod.fst h1).symm, (congrArg Prod.snd h1).symm⟩ h4
/-- A text of characters stands at a boundary. -/
theorem bound {ds : List (List UInt8)} (hd : ChsOk ds) (hne : ds ≠ []) : ∀ (cs : List (List UInt8)) (p : Nat), ChsOk cs → ds.flatten <+: cs.flatten.drop p → ∃ n, n ≤ cs.length ∧ p = skB cs n
  | [], p, _, h => by
    rcases ds with _ | ⟨d, ds⟩
    · exact absurd rfl hne
    · obtain ⟨b, t, rfl, -, -⟩ := ch_shape (hd d (List.mem_cons_self ..))
      simp at h
  | c :: cs, p, hc, h => by
    obtain ⟨b, t, rfl, hb, ht⟩ := ch_shape (hc c (List.mem_cons_self ..))
    rcases Nat.eq_zero_or_pos p with hp | hp
    · exact ⟨0, Nat.zero_le _, by rw [hp]; rfl⟩
    · rcases Nat.lt_or_ge p (t.length + 1) with hl | hl
      · exfalso
        rcases ds with _ | ⟨d, ds⟩
        · exact hne rfl
        obtain ⟨b', t', rfl, hb', -⟩ := ch_shape (hd d (List.mem_cons_self ..))
        obtain ⟨z, hz⟩ := h
        obtain ⟨q, rfl⟩ : ∃ q, p = q + 1 := ⟨p - 1, by omega⟩
        have hq : q < t.length := by omega
        rw [List.flatten_cons, List.flatten_cons, List.cons_append, List.cons_append, List.cons_append, List.drop_succ_cons, List.drop_append_of_le_length (by omega), List.drop_eq_getElem_cons hq, List.cons_append] at hz
        injection hz with h1 h2
        rw [h1] at hb'
        exact hb' (ht _ (List.getElem_mem hq))
      · have e : ((b :: t) :: cs).flatten.drop p = cs.flatten.drop (p - (t.length + 1)) := by
          rw [List.flatten_cons, List.drop_append, List.drop_of_length_le (by simp only [List.length_cons]; omega), List.nil_append, List.length_cons]
        rw [e] at h
        obtain ⟨n, h1, h2⟩ := bound hd hne cs _ (fun x hx => hc x (List.mem_cons_of_mem _ hx)) h
        refine ⟨n + 1, by simp only [List.length_cons]; omega, ?_⟩
        have : skB ((b :: t) :: cs) (n + 1) = (t.length + 1) + skB cs n := by
          simp [skB]
          omega
        omega
theorem skB_inj {cs : List (List UInt8)} (h : ChsOk cs) {m n : Nat} (hm : m ≤ cs.length) (hn : n ≤ cs.length) (e : skB cs m = skB cs n) : m = n := by
  have mono : ∀ a b, a < b → b ≤ cs.length → skB cs a < skB cs b := fun a b hab hb => by
    have h1 := skB_add cs a 1
    have h2 := skB_add cs (a + 1) (b - (a + 1))
    have h3 := skB_succ cs (show a < cs.length by omega)
    obtain ⟨r, -, h4, -⟩ := h cs[a] (List.getElem_mem (by omega))
    rw [show a + 1 + (b - (a + 1)) = b by omega] at h2
    omega
  rcases Nat.lt_trichotomy m n with h1 | h1 | h1
  · have := mono m n h1 hn
    omega
  · exact h1
  · have := mono n m h1 hm
    omega
/-- Does the text stand behind n characters? -/
def atC (cs ds : List (List UInt8)) (n : Nat) : Bool := Lib.hasPrefix (cs.drop n).flatten ds.flatten
theorem occ_at (s p : List UInt8) (i : Nat) : Lib.occAt s p i = true ↔ p <+: s.drop i := by
  unfold Lib.occAt
  first | exact List.isPrefixOf_iff_prefix | (simp [List.isPrefixOf_iff_prefix])
theorem pre_at (s p : List UInt8) : Lib.hasPrefix s p = true ↔ p <+: s := by
  unfold Lib.hasPrefix
  exact List.isPrefixOf_iff_prefix
/-- Where it is found, and not before. -/
theorem index_at {cs ds : List (List UInt8)} (hc : ChsOk cs) (hd : ChsOk ds) {n : Nat} (hn : n ≤ cs.length) (h1 : atC cs ds n = true) (h2 : ∀ m, m < n → atC cs ds m = false) : Lib.index cs.flatten ds.flatten = (skB cs n : Int) := by
  have hle : skB cs n ≤ cs.flatten.length := by
    have := skB_le cs n
    rw [tx_size] at this
    exact this
  refine Lib.index_first hle ((occ_at _ _ _).2 (by rw [drop_flat]; exact (pre_at _ _).1 h1)) fun j hj => ?_
  cases ho : Lib.occAt cs.flatten ds.flatten j with
  | false => rfl
  | true =>
    exfalso
    have ho := (occ_at _ _ _).1 ho
    rcases Classical.em (ds = []) with rfl | hne
    · rcases Nat.eq_zero_or_pos n with rfl | hp
      · rw [skB_zero] at hj
        omega
      · have := h2 0 hp
        unfold atC at this
        rw [(pre_at _ _).2 (by simp)] at this
        cases this
    · obtain ⟨m, hm, rfl⟩ := bound hd hne cs j hc ho
      have hmn : m < n := by
        rcases Nat.lt_or_ge m n with h | h
        · exact h
        · have h3 := skB_add cs n (m - n)
          rw [show n + (m - n) = m by omega] at h3
          omega
      have h3 := h2 m hmn
      unfold atC at h3
      rw [drop_flat] at ho
      rw [(pre_at _ _).2 ho] at h3
      cases h3
theorem index_not {cs ds : List (List UInt8)} (hc : ChsOk cs) (hd : ChsOk ds) (h2 : ∀ m, m ≤ cs.length → atC cs ds m = false) : Lib.index cs.flatten ds.flatten = -1 := by
  refine Lib.index_none fun j _ => ?_
  cases ho : Lib.occAt cs.flatten ds.flatten j with
  | false => rfl
  | true =>
    exfalso
    have ho := (occ_at _ _ _).1 ho
    rcases Classical.em (ds = []) with rfl | hne
    · have := h2 0 (Nat.zero_le _)
      unfold atC at this
      rw [(pre_at _ _).2 (by simp)] at this
      cases this
    · obtain ⟨m, hm, rfl⟩ := bound hd hne cs j hc ho
      have h3 := h2 m hm
      unfold atC at h3
      rw [drop_flat] at ho
      rw [(pre_at _ _).2 ho] at h3
      cases h3
end Go.Proofs.YtcnlonaighlmbaaGreatDoor

namespace Go.Proofs.YtcnlonaighlmbaaGreatDoor
open Go.RowKit

theorem join_cons (x : List UInt8) (r : List (List UInt8)) (sep : List UInt8) (h : r ≠ []) : Lib.join (x :: r) sep = x ++ sep ++ Lib.join r sep := by
  rcases r with _ | ⟨y, r⟩
  · exact absurd rfl h
  · simp [Lib.join, List.intercalate, List.intersperse]
theorem splitK_ne (sep : List UInt8) : ∀ (k : Nat) (s : List UInt8), Lib.splitK sep 0 k s ≠ []
  | 0, s => by simp [Lib.splitK]
  | k + 1, s => by
    unfold Lib.splitK
    split <;> simp
theorem join_splitK (sep new : List UInt8) : ∀ (k : Nat) (s : List UInt8), Lib.join (Lib.splitK sep 0 k s) new = Lib.replaceK sep new k s
  | 0, s => by
    unfold Lib.splitK Lib.replaceK
    exact Lib.join_one _ _
  | k + 1, s => by
    unfold Lib.splitK Lib.replaceK
    split
    · exact Lib.join_one _ _
    · rw [join_cons _ _ _ (splitK_ne _ _ _), join_splitK sep new k]
      simp
theorem replaceK_same (sep : List UInt8) : ∀ (k : Nat) (s : List UInt8), Lib.replaceK sep sep k s = s
  | 0, s => rfl
  | k + 1, s => by
    unfold Lib.replaceK
    split
    · rfl
    · rename_i h
      rw [replaceK_same sep k]
      rcases Lib.index_spec s sep with ⟨h1, -⟩ | ⟨i, h1, h2, h3, -⟩
      · rw [h1] at h
        exact absurd rfl h
      · rw [h1]
        obtain ⟨z, hz⟩ := (occ_at _ _ _).1 h3
        have e : (i : Int).toNat = i := rfl
        rw [e, ← List.drop_drop, ← hz, List.drop_left, List.append_assoc, hz, List.take_append_drop]
/-- The pieces of a text, joined by it again. -/
theorem join_back (s sep : List UInt8) : Lib.join (Lib.split s sep) sep = s := by
  unfold Lib.split
  rw [join_splitK, replaceK_same]
/-- The pieces of a text, joined by another one. -/
theorem join_other (s sep new : List UInt8) : Lib.join (Lib.split s sep) new = Lib.replaceAll s sep new := by
  unfold Lib.split Lib.replaceAll Lib.replace Lib.replaceNum
  rw [join_splitK, if_pos (show (-1 : Int) < 0 ∨ (Lib.count s sep : Int) < -1 from .inl (by decide))]
  by_cases h : (sep == new) = true
  · rw [if_pos h, eq_of_beq h, replaceK_same]
  · rw [if_neg h]
/-- A prefix that is made of characters is made of the first ones. -/
theorem pre_chs : ∀ (ds cs : List (List UInt8)), ChsOk ds → ChsOk cs → ds.flatten <+: cs.flatten → ∃ r, cs = ds ++ r
  | [], cs, _, _, _ => ⟨cs, rfl⟩
  | d :: ds, [], hd, _, h => by
    obtain ⟨b, t, rfl, -, -⟩ := ch_shape (hd d (List.mem_cons_self ..))
    simp at h
  | d :: ds, c :: cs, hd, hc, h => by
    obtain ⟨z, hz⟩ := h
    obtain ⟨r1, g1, -, -, -⟩ := hd d (List.mem_cons_self ..)
    obtain ⟨r2, g2, -, -, -⟩ := hc c (List.mem_cons_self ..)
    have e1 := g1 (ds.flatten ++ z)
    have e2 := g2 cs.flatten
    rw [List.flatten_cons, List.flatten_cons, List.append_assoc] at hz
    rw [hz, e2] at e1
    have hl : c.length = d.length := congrArg Prod.snd e1
    obtain ⟨h1, h2⟩ := List.append_inj hz hl.symm
    subst h1
    obtain ⟨r, hr⟩ := pre_chs ds cs (fun x hx => hd x (List.mem_cons_of_mem _ hx)) (fun x hx => hc x (List.mem_cons_of_mem _ hx)) ⟨z, h2⟩
    exact ⟨r, by rw [hr]; rfl⟩
/-- The pieces of a text of characters are texts of characters. -/
theorem split_chs {ds : List (List UInt8)} (hd : ChsOk ds) (hne : ds ≠ []) : ∀ (k : Nat) (cs : List (List UInt8)), ChsOk cs → ∃ ps : List (List (List UInt8)), (∀ p ∈ ps, ChsOk p ∧ p.flatten.length ≤ cs.flatten.length) ∧ Lib.splitK ds.flatten 0 k cs.flatten = ps.map List.flatten
  | 0, cs, hc => ⟨[cs], fun p hp => by rw [List.mem_singleton.1 hp]; exact ⟨hc, Nat.le_refl _⟩, rfl⟩
  | k + 1, cs, hc => by
    unfold Lib.splitK
    rcases Lib.index_spec cs.flatten ds.flatten with ⟨h1, -⟩ | ⟨i, h1, h2, h3, -⟩
    · rw [h1, if_pos (by decide)]
      exact ⟨[cs], fun p hp => by rw [List.mem_singleton.1 hp]; exact ⟨hc, Nat.le_refl _⟩, rfl⟩
    · rw [h1, if_neg (by
        intro e
        have := eq_of_beq e
        omega)]
      have e : (i : Int).toNat = i := rfl
      rw [e, Nat.add_zero]
      have h3 := (occ_at _ _ _).1 h3
      obtain ⟨n, hn, rfl⟩ := bound hd hne cs i hc h3
      rw [drop_flat] at h3
      obtain ⟨r, hr⟩ := pre_chs ds (cs.drop n) hd (hc.drop n) h3
      have hrr : cs.flatten.drop (skB cs n + ds.flatten.length) = r.flatten := by
        rw [← List.drop_drop, drop_flat, hr, List.flatten_append, List.drop_left]
      have hrc : ChsOk r := fun x hx => hc x (List.mem_of_mem_drop (i := n) (by rw [hr]; exact List.mem_append_right _ hx))
      have hrl : r.flatten.length ≤ cs.flatten.length := by
        rw [← hrr, List.length_drop]
        omega
      obtain ⟨ps, g1, g2⟩ := split_chs hd hne k r hrc
      refine ⟨cs.take n :: ps, ?_, ?_⟩
      · intro p hp
        rcases List.mem_cons.1 hp with rfl | hp
        · refine ⟨hc.take n, ?_⟩
          rw [← take_flat, List.length_take]
          omega
        · exact ⟨(g1 p hp).1, Nat.le_trans (g1 p hp).2 hrl⟩
      · rw [hrr, g2, take_flat]
        rfl
end Go.Proofs.YtcnlonaighlmbaaGreatDoor

namespace Go.Proofs.YtcnlonaighlmbaaGreatDoor
open Go.RowKit

/-- The pieces. -/
def pcs (s sep : ByteArray) : List ByteArray := Lib.splitB sep 0 (Lib.countB s sep) s
theorem pcs_data (s sep : ByteArray) : (pcs s sep).map (·.data.toList) = Lib.split s.data.toList sep.data.toList := by
  unfold pcs
  rw [Lib.splitB_data]
  rfl
theorem pcs_len {s sep : ByteArray} (h : 1 ≤ sep.size) : (pcs s sep).length = Lib.countB s sep + 1 := Lib.splitB_all sep h 0 _ s rfl
theorem pcs_count {s sep : ByteArray} (h : 1 ≤ sep.size) : Lib.countB s sep ≤ s.size := Lib.countB_le sep h _ s (Nat.le_refl _)
theorem tx_pos {ds : List (List UInt8)} (h : ChsOk ds) (hne : ds ≠ []) : 1 ≤ (tx ds).size := by
  have h1 := len_size h
  have h2 := List.length_pos_iff.2 hne
  omega
/-- The pieces are texts of characters. -/
theorem pcs_chs {cs ds : List (List UInt8)} (hc : ChsOk cs) (hd : ChsOk ds) (hne : ds ≠ []) : ∃ ps : List (List (List UInt8)), pcs (tx cs) (tx ds) = ps.map tx ∧ ∀ p ∈ ps, ChsOk p ∧ (tx p).size ≤ (tx cs).size := by
  obtain ⟨ps, h1, h2⟩ := split_chs hd hne (Lib.countB (tx cs) (tx ds)) cs hc
  refine ⟨ps, ?_, fun p hp => ⟨(h1 p hp).1, by rw [tx_size, tx_size]; exact (h1 p hp).2⟩⟩
  have h3 : (pcs (tx cs) (tx ds)).map (·.data.toList) = ps.map List.flatten := by
    unfold pcs
    rw [Lib.splitB_data, tx_data, tx_data]
    exact h2
  have h4 : ∀ (L : List ByteArray) (ps : List (List (List UInt8))), L.map (·.data.toList) = ps.map List.flatten → L = ps.map tx := by
    intro L
    induction L with
    | nil =>
      intro ps h
      cases ps with
      | nil => rfl
      | cons p ps => simp at h
    | cons x L ih =>
      intro ps h
      cases ps with
      | nil => simp at h
      | cons p ps =>
        simp only [List.map_cons, List.cons.injEq] at h
        rw [List.map_cons, ih ps h.2, tx_of h.1]
  exact h4 _ _ h3
theorem pcs_ok {cs ds : List (List UInt8)} (hc : ChsOk cs) (hd : ChsOk ds) (hne : ds ≠ []) (hs : (tx cs).size ≤ 32767) : ∀ t ∈ pcs (tx cs) (tx ds), txtE t = 0 := by
  obtain ⟨ps, h1, h2⟩ := pcs_chs hc hd hne
  rw [h1]
  intro t ht
  obtain ⟨p, hp, rfl⟩ := List.mem_map.1 ht
  exact txtE_chs (h2 p hp).1 (Nat.le_trans (h2 p hp).2 hs)
theorem jn_data (L : List ByteArray) (sep : ByteArray) : (jnT L sep).data.toList = Lib.join (L.map (·.data.toList)) sep.data.toList := by simp [jnT]
/-- Joined again. -/
theorem jn_back (cs ds : List (List UInt8)) : jnT (pcs (tx cs) (tx ds)) (tx ds) = tx cs := by
  unfold jnT
  rw [pcs_data, join_back]
theorem jn_other (cs ds es : List (List UInt8)) : jnT (pcs (tx cs) (tx ds)) (tx es) = ⟨(Lib.replaceAll (tx cs).data.toList (tx ds).data.toList (tx es).data.toList).toArray⟩ := by
  unfold jnT
  rw [pcs_data, join_other]
theorem join_flat (es : List (List UInt8)) (he : ChsOk es) : ∀ ps : List (List (List UInt8)), (∀ p ∈ ps, ChsOk p) → ∃ qs, ChsOk qs ∧ Lib.join (ps.map List.flatten) es.flatten = qs.flatten
  | [], _ => ⟨[], (fun c hc => by cases hc), by simp [Lib.join]⟩
  | [p], h => ⟨p, h p (List.mem_cons_self ..), Lib.join_one _ _⟩
  | p :: q :: r, h => by
    obtain ⟨qs, h1, h2⟩ := join_flat es he (q :: r) fun x hx => h x (List.mem_cons_of_mem _ hx)
    refine ⟨p ++ (es ++ qs), (h p (List.mem_cons_self ..)).app (he.app h1), ?_⟩
    rw [List.map_cons, join_cons _ _ _ (by simp), h2]
    simp
/-- What is joined by another text is a text. -/
theorem jn_ok {cs ds es : List (List UInt8)} (hc : ChsOk cs) (hd : ChsOk ds) (hne : ds ≠ []) (he : ChsOk es) (hs : (tx cs).size ≤ 300) (hes : (tx es).size ≤ 20) : txtE (jnT (pcs (tx cs) (tx ds)) (tx es)) = 0 ∧ (jnT (pcs (tx cs) (tx ds)) (tx es)).size ≤ 6300 := by
  obtain ⟨ps, h1, h2⟩ := pcs_chs hc hd hne
  obtain ⟨qs, h3, h4⟩ := join_flat es he ps fun p hp => (h2 p hp).1
  have hp1 := tx_pos hd hne
  have hl := pcs_len (s := tx cs) hp1
  have hcn := pcs_count (s := tx cs) hp1
  have hsz : ∀ sep : ByteArray, (jnT (pcs (tx cs) (tx ds)) sep).size = sep.size * Lib.countB (tx cs) (tx ds) + Lib.lens ((pcs (tx cs) (tx ds)).map (·.data.toList)) := by
    intro sep
    obtain ⟨x, r, hx⟩ : ∃ x r, (pcs (tx cs) (tx ds)).map (·.data.toList) = x :: r := by
      cases h : (pcs (tx cs) (tx ds)).map (·.data.toList) with
      | nil =>
        have := congrArg List.length h
        rw [List.length_map, hl] at this
        simp at this
      | cons x r => exact ⟨x, r, rfl⟩
    have h5 : (jnT (pcs (tx cs) (tx ds)) sep).size = (jnT (pcs (tx cs) (tx ds)) sep).data.toList.length := rfl
    have h6 := congrArg List.length hx
    rw [List.length_map, hl, List.length_cons] at h6
    rw [h5, jn_data, hx, Lib.join_length, show r.length = Lib.countB (tx cs) (tx ds) by omega]
    rfl
  have ha := hsz (tx ds)
  rw [jn_back] at ha
  have hb := hsz (tx es)
  have h8 : (tx es).size * Lib.countB (tx cs) (tx ds) ≤ 20 * 300 := Nat.mul_le_mul hes (by omega)
  have h9 : (jnT (pcs (tx cs) (tx ds)) (tx es)).size ≤ 6300 := by omega
  have h10 : jnT (pcs (tx cs) (tx ds)) (tx es) = tx qs := by
    refine tx_of ?_
    rw [jn_data, h1, tx_data, List.map_map, ← h4]
    congr 1
  exact ⟨by rw [h10] at h9 ⊢; exact txtE_chs h3 (by omega), h9⟩
end Go.Proofs.YtcnlonaighlmbaaGreatDoor
