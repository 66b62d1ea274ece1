/- ftext: calls with scalar arguments. -/
import Derived.Test.YtcnlonaighlmbaaGreatDoorFtO
set_option linter.unusedSimpArgs false
set_option linter.unusedVariables false
namespace Go.Proofs.YtcnlonaighlmbaaGreatDoor
open Go.RowKit

theorem tx_sc {cs : List (List UInt8)} (h : ChsOk cs) (hs : (tx cs).size ≤ 32767) : Sc (tV (tx cs)) := tV_sc (txtE_chs h hs)
theorem tx_le {cs : List (List UInt8)} (h : ChsOk cs) (hs : (tx cs).size ≤ 32767) : cs.length ≤ 32767 := Nat.le_trans (len_size h) hs
theorem mid_sc {cs : List (List UInt8)} (h : ChsOk cs) (hs : (tx cs).size ≤ 32767) (m k : Nat) : Sc (tV (tx ((cs.drop m).take k))) := tx_sc ((h.drop m).take k) (Nat.le_trans (tx_take_le (cs.drop m) k) (Nat.le_trans (tx_drop_le cs m) hs))
/-- LEN. -/
theorem c_Len (W : World) (A : Option Addr) (c : Nat) (cs : List (List UInt8)) (hcs : ChsOk cs) (hsz : (tx cs).size ≤ 32767) (he : VEnv W) (hA : Reads 9 csV W (.slice A 1 c) [tV (tx cs)]) :
    Calls Tryz.prog 8 #[.string ⟨#[76, 69, 78]⟩, .slice A 1 c] W fun e w' => e = .returned (nV cs.length).v ∧ Below W.heap.size W w' :=
  call_1 W ⟨#[76, 69, 78]⟩ 1 1 115 51 (by kernel_rfl) (.inl rfl) A 1 c (nV cs.length) [tV (tx cs)] (nV_sc _ (by have := tx_le hcs hsz; omega)) (fun u hu => by
      rw [List.mem_singleton.1 hu]
      exact (tx_sc hcs hsz)) he hA (by decide) (by decide) (by decide) (by decide)
    (fun B0 W1 W' p A1 c1 hp hB h1 HF => entG_Len B0 W1 W' p A1 c1 1 _ hp hB h1 HF)
    (fun W0 W'' q A1 c1 he0 hw hq hb hA' => fLen_any W0 W'' q A1 c1 cs hcs hsz he0 hw hq hb hA')

/-- LEFT. -/
theorem c_Lef (W : World) (A : Option Addr) (c : Nat) (cs : List (List UInt8)) (hcs : ChsOk cs) (hsz : (tx cs).size ≤ 32767) (n : Nat) (hn : n ≤ 40000) (he : VEnv W) (hA : Reads 9 csV W (.slice A 2 c) [tV (tx cs), nV n]) :
    Calls Tryz.prog 8 #[.string ⟨#[76, 69, 70, 84]⟩, .slice A 2 c] W fun e w' => e = .returned (tV (tx (cs.take n))).v ∧ Below W.heap.size W w' :=
  call_1 W ⟨#[76, 69, 70, 84]⟩ 1 2 115 59 (by kernel_rfl) (.inl rfl) A 2 c (tV (tx (cs.take n))) [tV (tx cs), nV n] (tx_sc (hcs.take n) (Nat.le_trans (tx_take_le cs n) hsz)) (fun u hu => by
      simp only [List.mem_cons, List.not_mem_nil, or_false] at hu
      rcases hu with rfl | rfl
      · exact (tx_sc hcs hsz)
      · exact nV_sc _ (by omega)
      ) he hA (by decide) (by decide) (by decide) (by decide)
    (fun B0 W1 W' p A1 c1 hp hB h1 HF => entG_Lef B0 W1 W' p A1 c1 2 _ hp hB h1 HF)
    (fun W0 W'' q A1 c1 he0 hw hq hb hA' => fLef_any W0 W'' q A1 c1 cs hcs hsz n hn he0 hw hq hb hA')

/-- RIGHT. -/
theorem c_Rig (W : World) (A : Option Addr) (c : Nat) (cs : List (List UInt8)) (hcs : ChsOk cs) (hsz : (tx cs).size ≤ 32767) (n : Nat) (hn : n ≤ cs.length) (he : VEnv W) (hA : Reads 9 csV W (.slice A 2 c) [tV (tx cs), nV n]) :
    Calls Tryz.prog 8 #[.string ⟨#[82, 73, 71, 72, 84]⟩, .slice A 2 c] W fun e w' => e = .returned (tV (tx (cs.drop (cs.length - n)))).v ∧ Below W.heap.size W w' :=
  call_1 W ⟨#[82, 73, 71, 72, 84]⟩ 1 2 115 60 (by kernel_rfl) (.inl rfl) A 2 c (tV (tx (cs.drop (cs.length - n)))) [tV (tx cs), nV n] (tx_sc (hcs.drop _) (Nat.le_trans (tx_drop_le cs _) hsz)) (fun u hu => by
      simp only [List.mem_cons, List.not_mem_nil, or_false] at hu
      rcases hu with rfl | rfl
      · exact (tx_sc hcs hsz)
      · exact (nV_sc _ (by have := tx_le hcs hsz; omega))
      ) he hA (by decide) (by decide) (by decide) (by decide)
    (fun B0 W1 W' p A1 c1 hp hB h1 HF => entG_Rig B0 W1 W' p A1 c1 2 _ hp hB h1 HF)
    (fun W0 W'' q A1 c1 he0 hw hq hb hA' => fRig_any W0 W'' q A1 c1 cs hcs hsz n hn he0 hw hq hb hA')

/-- MID. -/
theorem c_Mid (W : World) (A : Option Addr) (c : Nat) (cs : List (List UInt8)) (hcs : ChsOk cs) (hsz : (tx cs).size ≤ 32767) (m k : Nat) (hm : m + k ≤ cs.length) (he : VEnv W) (hA : Reads 9 csV W (.slice A 3 c) [tV (tx cs), nV (m + 1), nV k]) :
    Calls Tryz.prog 8 #[.string ⟨#[77, 73, 68]⟩, .slice A 3 c] W fun e w' => e = .returned (tV (tx ((cs.drop m).take k))).v ∧ Below W.heap.size W w' :=
  call_1 W ⟨#[77, 73, 68]⟩ 3 3 115 61 (by kernel_rfl) (.inl rfl) A 3 c (tV (tx ((cs.drop m).take k))) [tV (tx cs), nV (m + 1), nV k] (mid_sc hcs hsz m k) (fun u hu => by
      simp only [List.mem_cons, List.not_mem_nil, or_false] at hu
      rcases hu with rfl | rfl | rfl
      · exact (tx_sc hcs hsz)
      · exact (nV_sc _ (by have := tx_le hcs hsz; omega))
      · exact (nV_sc _ (by have := tx_le hcs hsz; omega))
      ) he hA (by decide) (by decide) (by decide) (by decide)
    (fun B0 W1 W' p A1 c1 hp hB h1 HF => entG_Mid B0 W1 W' p A1 c1 3 _ hp hB h1 HF)
    (fun W0 W'' q A1 c1 he0 hw hq hb hA' => fMid_any W0 W'' q A1 c1 cs hcs hsz m k hm he0 hw hq hb hA')

/-- REPLACE. -/
theorem c_Rep (W : World) (A : Option Addr) (c : Nat) (cs : List (List UInt8)) (hcs : ChsOk cs) (hsz : (tx cs).size ≤ 32767) (m k : Nat) (hm : m + k ≤ cs.length) (he : VEnv W) (hA : Reads 9 csV W (.slice A 4 c) [tV (tx cs), nV (m + 1), nV k, tV (tx ((cs.drop m).take k))]) :
    Calls Tryz.prog 8 #[.string ⟨#[82, 69, 80, 76, 65, 67, 69]⟩, .slice A 4 c] W fun e w' => e = .returned (tV (tx cs)).v ∧ Below W.heap.size W w' :=
  call_1 W ⟨#[82, 69, 80, 76, 65, 67, 69]⟩ 4 4 115 68 (by kernel_rfl) (.inl rfl) A 4 c (tV (tx cs)) [tV (tx cs), nV (m + 1), nV k, tV (tx ((cs.drop m).take k))] (tx_sc hcs hsz) (fun u hu => by
      simp only [List.mem_cons, List.not_mem_nil, or_false] at hu
      rcases hu with rfl | rfl | rfl | rfl
      · exact (tx_sc hcs hsz)
      · exact (nV_sc _ (by have := tx_le hcs hsz; omega))
      · exact (nV_sc _ (by have := tx_le hcs hsz; omega))
      · exact (mid_sc hcs hsz m k)
      ) he hA (by decide) (by decide) (by decide) (by decide)
    (fun B0 W1 W' p A1 c1 hp hB h1 HF => entG_Rep B0 W1 W' p A1 c1 4 _ hp hB h1 HF)
    (fun W0 W'' q A1 c1 he0 hw hq hb hA' => fRep_any W0 W'' q A1 c1 cs hcs hsz m k hm he0 hw hq hb hA')

/-- EXACT. -/
theorem c_Exa (W : World) (A : Option Addr) (c : Nat) (cs : List (List UInt8)) (hcs : ChsOk cs) (hsz : (tx cs).size ≤ 32767) (he : VEnv W) (hA : Reads 9 csV W (.slice A 2 c) [tV (tx cs), tV (tx cs)]) :
    Calls Tryz.prog 8 #[.string ⟨#[69, 88, 65, 67, 84]⟩, .slice A 2 c] W fun e w' => e = .returned (bV true).v ∧ Below W.heap.size W w' :=
  call_1 W ⟨#[69, 88, 65, 67, 84]⟩ 2 2 115 63 (by kernel_rfl) (.inl rfl) A 2 c (bV true) [tV (tx cs), tV (tx cs)] (bV_sc true) (fun u hu => by
      simp only [List.mem_cons, List.not_mem_nil, or_false] at hu
      rcases hu with rfl | rfl
      · exact (tx_sc hcs hsz)
      · exact (tx_sc hcs hsz)
      ) he hA (by decide) (by decide) (by decide) (by decide)
    (fun B0 W1 W' p A1 c1 hp hB h1 HF => entG_Exa B0 W1 W' p A1 c1 2 _ hp hB h1 HF)
    (fun W0 W'' q A1 c1 he0 hw hq hb hA' => fExa_any W0 W'' q A1 c1 cs hcs hsz he0 hw hq hb hA')

/-- CONCAT of three texts. -/
theorem c_Con (W : World) (A : Option Addr) (c : Nat) (t1 t2 t3 s : ByteArray) (h1 : txtE t1 = 0) (h2 : txtE t2 = 0) (h3 : txtE t3 = 0) (hs : jnT [t1, t2, t3] ⟨#[]⟩ = s) (hok : txtE s = 0) (he : VEnv W) (hA : Reads 9 csV W (.slice A 3 c) [tV t1, tV t2, tV t3]) :
    Calls Tryz.prog 8 #[.string ⟨#[67, 79, 78, 67, 65, 84]⟩, .slice A 3 c] W fun e w' => e = .returned (tV s).v ∧ Below W.heap.size W w' :=
  call_1 W ⟨#[67, 79, 78, 67, 65, 84]⟩ 1 255 97 78 (by kernel_rfl) (.inr rfl) A 3 c (tV s) [tV t1, tV t2, tV t3] (tV_sc hok) (fun u hu => by
      simp only [List.mem_cons, List.not_mem_nil, or_false] at hu
      rcases hu with rfl | rfl | rfl
      · exact tV_sc h1
      · exact tV_sc h2
      · exact tV_sc h3) he hA (by decide) (by decide) (by decide) (by decide)
    (fun B0 W1 W' p A1 c1 hp hB h1 HF => entG_Con B0 W1 W' p A1 c1 3 _ hp hB h1 HF)
    (fun W0 W'' q A1 c1 he0 hw hq hb hA' => fCon_any W0 W'' q A1 c1 3 [t1, t2, t3] rfl (by decide) (by decide) (fun t ht => by
      simp only [List.mem_cons, List.not_mem_nil, or_false] at ht
      rcases ht with rfl | rfl | rfl
      · exact h1
      · exact h2
      · exact h3) s hs hok he0 hw hq hb hA')
end Go.Proofs.YtcnlonaighlmbaaGreatDoor
