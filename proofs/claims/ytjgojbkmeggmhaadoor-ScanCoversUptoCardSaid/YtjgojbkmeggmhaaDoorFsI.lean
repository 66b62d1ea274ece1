/- ScanCovers's walk. -/
import Derived.Test.YtjgojbkmeggmhaaDoorFsH
import Derived.Test.YtjgojbkmeggmhaaDoorMem3
import Derived.Deep.QuietTactic
import Derived.BigQuiet
namespace Go.Proofs.YtjgojbkmeggmhaaDoor
open Go.RowKit

namespace Fs
theorem scanF_err : ∀ (f : Nat) (l : List UInt8) (i j : Nat), (scanF f l i).2 = some j → i ≤ j ∧ j ≤ i + l.length
  | 0, l, i, j, h => by simp only [scanF, Option.some.injEq] at h; omega
  | f + 1, l, i, j, h => by
    rw [scanF] at h
    split at h
    · cases h
    · rename_i hne
      split at h
      · simp only [Option.some.injEq] at h; omega
      · rename_i h0
        have := scanF_err f _ _ _ h
        rw [List.length_drop] at this
        have h2 := (next_stays l hne (by omega)).1
        omega
theorem scan_err {l : List UInt8} {j : Nat} (h : (scan l).2 = some j) : j ≤ l.length := by
  unfold scan at h
  split at h
  · rename_i hp
    have h1 := scanF_err _ _ _ _ h
    have : 1 ≤ l.length := by
      unfold Lib.hasPrefix at hp
      have := (List.isPrefixOf_iff_prefix.1 hp).length_le
      simpa using this
    rw [List.length_drop] at h1
    omega
  · simp only [Option.some.injEq] at h; omega
theorem scan_ok {l : List UInt8} (h : (scan l).2 = none) : 61 :: (scan l).1.flatMap (·.2) = l ∧ ∀ t ∈ (scan l).1, Tok t := by
  unfold scan at h ⊢
  split at h
  · rename_i hp
    rw [if_pos hp]
    obtain ⟨h1, h2⟩ := scan_covers _ (l.drop 1) 1 (by rw [List.length_drop]; omega) h
    refine ⟨?_, h2⟩
    rw [h1]
    cases l with
    | nil => simp [Lib.hasPrefix] at hp
    | cons c t =>
      have : (61 : UInt8) = c := by simpa [Lib.hasPrefix, List.isPrefixOf] using hp
      rw [this]
      rfl
  · cases h
theorem scan_tok {t : Int × List UInt8} (h : Tok t) : ∃ k, scan (61 :: t.2) = ([(k, t.2)], none) ∧ (t.1 ≠ 6 → t.1 ≠ 8 → k = t.1) := by
  obtain ⟨k, h1, h2⟩ := h.alone
  refine ⟨k, ?_, h2⟩
  rw [scan, if_pos (by simp [Lib.hasPrefix])]
  have := scan_one h.ne h1 t.2.length 1
  simpa using this
end Fs
theorem ba_ext {a b : ByteArray} (h : a.data.toList = b.data.toList) : a = b := by
  obtain ⟨⟨a⟩⟩ := a
  obtain ⟨⟨b⟩⟩ := b
  simp at h
  rw [h]

theorem scans_any (w : World) (he : Env w) :
    Calls Tryd.prog 11 #[] w fun e w' => e = .returned (.bool true) ∧ Below w.heap.size w w' := by
  have HS := Lib.hid (show Calls Tryd.prog 12 #[.string ⟨#[61, 97, 49, 43, 39, 120, 32, 121, 39, 33, 66, 50, 37]⟩] w fun e w' => ∃ b o c, e = .returned (.tuple #[.slice (some ⟨b, o, none⟩) 4 c, .int .i64 0, .int .i64 0]) ∧ w'.cell? ⟨b, o + 4, none⟩ = some (.int .i64 4) ∧ 4 ≤ c ∧ Below w.heap.size w w' from by
    have hx : Fs.scan [61, 97, 49, 43, 39, 120, 32, 121, 39, 33, 66, 50, 37] = ([(4, [97, 49]), (8, [43]), (4, [39, 120, 32, 121, 39, 33, 66, 50]), (8, [37])], none) := by decide +kernel
    refine (fs_scan ⟨#[61, 97, 49, 43, 39, 120, 32, 121, 39, 33, 66, 50, 37]⟩ w he (by decide)).mono ?_
    rintro e w' ⟨h, hb⟩
    rw [show (⟨#[61, 97, 49, 43, 39, 120, 32, 121, 39, 33, 66, 50, 37]⟩ : ByteArray).data.toList = [61, 97, 49, 43, 39, 120, 32, 121, 39, 33, 66, 50, 37] from rfl, hx] at h
    rcases h with ⟨i, h1, _⟩ | ⟨_, v, rfl, A, c, rfl, hc, -, hr⟩
    · cases h1
    · obtain ⟨b, o, rfl, hlt, hcell⟩ := hr (by decide)
      have h4 := hcell 2 (by decide) 0 (by decide)
      exact ⟨b, o, c, rfl, h4, hc, hb⟩)
  go_enter Tryd.func11, Tryd.ntmps11
  go_wp2_with (go_at_call 12; refine HS.out.mono ?_; rintro e w' ⟨b, o, c, rfl, h4, hc, hb⟩)
  go_ret
  exact ⟨rfl, hb⟩

set_option maxRecDepth 100000 in
set_option maxHeartbeats 4000000 in
theorem covers_any (s : ByteArray) (w : World) (he : Env w) (hs : s.size ≤ 2000000000) :
    Calls Tryd.prog 5 #[.string s] w fun e w' => e = .returned (.bool true) ∧ Below w.heap.size w w' := by
  have HE := Lib.hid (fun W (h : Below w.heap.size w W) => he.below h)
  have HSS := Lib.hid (scans_any w he)
  have HSC := Lib.hid fun W (h : Below w.heap.size w W) => fs_scan s W (he.below h) (by omega)
  have HSX := Lib.hid fun (t : ByteArray) (ht : t.size ≤ 4000000000) W (h : Below w.heap.size w W) => fs_scan t W (he.below h) ht
  clear he
  cases hr : (Fs.scan s.data.toList).2 with
  | some j =>
    have hj := Fs.scan_err hr
    rw [show s.data.toList.length = s.size by simp] at hj
    have HSD := Lib.hid (show ∀ W, Below w.heap.size w W → Calls Tryd.prog 12 #[.string s] W fun e w' => e = .returned (.tuple #[.slice none 0 0, .int .i64 (j : Int), .int .i64 10]) ∧ Below W.heap.size W w' from fun W h => by
      refine (HSC.out W h).mono ?_
      rintro e w' ⟨h, hb⟩
      rw [hr] at h
      rcases h with ⟨i, h1, rfl⟩ | ⟨h1, _⟩
      · cases h1; exact ⟨rfl, hb⟩
      · cases h1)
    clear hr HSC
    go_enter Tryd.func5, Tryd.ntmps5
    go_wp2_with (first
      | (go_at_call 11; refine HSS.out.mono ?_; rintro e w1 ⟨rfl, hb⟩; have HB := Lib.hid hb; clear hb)
      | (go_at_call 12; (with_reducible refine (HSD.out _ HB.out).mono ?_); rintro e w2 ⟨rfl, hb⟩; have HB2 := Lib.hid (below_tr HB.out hb); clear hb))
    go_ret
    exact ⟨rfl, HB2.out⟩
  | none =>
    obtain ⟨hcov, htok⟩ := Fs.scan_ok hr
    obtain ⟨ts, hts⟩ : ∃ ts, ts = (Fs.scan s.data.toList).1 := ⟨_, rfl⟩
    have HSD := Lib.hid (show ∀ W, Below w.heap.size w W → Calls Tryd.prog 12 #[.string s] W fun e w' => ∃ A c, e = .returned (.tuple #[.slice A ts.length c, .int .i64 0, .int .i64 0]) ∧ Toks w' (.slice A ts.length c) ts ∧ Below W.heap.size W w' from fun W h => by
      refine (HSC.out W h).mono ?_
      rintro e w' ⟨h, hb⟩
      rw [hr, ← hts] at h
      rcases h with ⟨i, h1, _⟩ | ⟨_, v, rfl, hv⟩
      · cases h1
      · obtain ⟨A, c, rfl⟩ := hv.shape
        exact ⟨A, c, rfl, hv, hb⟩)
    rw [← hts] at hcov htok
    have hlen : ts.length ≤ s.size := by
      have h1 : ∀ l : List (Int × List UInt8), (∀ t ∈ l, Fs.Tok t) → l.length ≤ (l.flatMap (·.2)).length := fun l => by
        induction l with
        | nil => intro _; simp
        | cons x t ih =>
          intro h
          have h2 := ih fun y hy => h y (List.mem_cons_of_mem _ hy)
          have h3 := (h x (List.mem_cons_self ..)).ne
          rw [List.flatMap_cons, List.length_append, List.length_cons]
          have : x.2.length ≠ 0 := fun e => h3 (List.eq_nil_of_length_eq_zero e)
          omega
      have h2 := h1 ts htok
      have h3 := congrArg List.length hcov
      rw [List.length_cons, show s.data.toList.length = s.size by simp] at h3
      omega
    have HCOV := Lib.hid hcov
    have HTOK := Lib.hid htok
    clear hr HSC hts hcov htok
    go_enter Tryd.func5, Tryd.ntmps5
    go_wp2_with (first
      | (go_at_call 11; refine HSS.out.mono ?_; rintro e w1 ⟨rfl, hb⟩; have HB := Lib.hid hb; clear hb)
      | (go_at_call 12; (with_reducible refine (HSD.out _ HB.out).mono ?_); rintro e w2 ⟨A, c, rfl, hv, hb⟩; have HB2 := Lib.hid (below_tr HB.out hb); have HV := Lib.hid hv; clear hb hv))
    go_loopw [6, 37] (fun out i wr => ∃ (k : Nat) (o : ByteArray), k ≤ ts.length ∧ i = .int .i64 k ∧ out = .string o ∧ Hid (o.data.toList = 61 :: (ts.take k).flatMap (·.2)) ∧ Below w.heap.size w wr ∧ Toks wr (.slice A ts.length c) ts) (fun _ i _ => ts.length - (intOf i).toNat)
    case atStart => exact ⟨0, _, Nat.zero_le _, rfl, rfl, Lib.hid rfl, HB2.out, HV.out⟩
    case round =>
      obtain ⟨k, o, hk, rfl, rfl, hq, hb, hv⟩ := hrel
      have HB3 := Lib.hid hb
      have HV3 := Lib.hid hv
      clear hb hv
      by_cases hlt : k < ts.length
      · obtain ⟨⟨q, tx⟩, htk⟩ : ∃ x, x = ts[k] := ⟨_, rfl⟩
        obtain ⟨kk, hsc, hkk⟩ := Fs.scan_tok (HTOK.out ts[k] (List.getElem_mem hlt))
        rw [← htk] at hsc hkk
        dsimp only at hsc hkk
        have hne : tx ≠ [] := by have := (HTOK.out ts[k] (List.getElem_mem hlt)).ne; rwa [← htk] at this
        have htake : ts.take (k + 1) = ts.take k ++ [(q, tx)] := by rw [List.take_succ_eq_append_getElem hlt, ← htk]
        have hsum : o.size + tx.length ≤ s.size := by
          have h1 := congrArg List.length HCOV.out
          have h2 := congrArg List.length hq.out
          rw [List.length_cons, show s.data.toList.length = s.size by simp] at h1
          rw [List.length_cons, show o.data.toList.length = o.size by simp] at h2
          have h3 : ((ts.take (k + 1)).flatMap (·.2)).length ≤ (ts.flatMap (·.2)).length := by
            have := congrArg (fun l => (l.flatMap (fun x : Int × List UInt8 => x.2)).length) (List.take_append_drop (k + 1) ts)
            simp only [List.flatMap_append, List.length_append] at this
            omega
          rw [htake, List.flatMap_append, List.length_append, show ([(q, tx)] : List (Int × List UInt8)).flatMap (fun x => x.2) = tx from by simp] at h3
          omega
        have HQ := Lib.hid (show (o ++ ⟨tx.toArray⟩ : ByteArray).data.toList = 61 :: (ts.take (k + 1)).flatMap (·.2) from by
          rw [ByteArray.toList_data_append, hq.out, htake]; simp)
        have hx1 : 1 + tx.length ≤ 4000000000 := by omega
        have HX := Lib.hid (show ∀ W, Below w.heap.size w W → Calls Tryd.prog 12 #[.string (⟨#[61]⟩ ++ ⟨tx.toArray⟩)] W fun e w' => ∃ b' o' c', e = .returned (.tuple #[.slice (some ⟨b', o', none⟩) 1 c', .int .i64 0, .int .i64 0]) ∧ w'.cell? ⟨b', o', none⟩ = some (.int .i64 kk) ∧ 1 ≤ c' ∧ Below W.heap.size W w' from fun W hW => by
          have el : ((⟨#[61]⟩ : ByteArray) ++ ⟨tx.toArray⟩).data.toList = 61 :: tx := by rw [ByteArray.toList_data_append]; rfl
          have es : ((⟨#[61]⟩ : ByteArray) ++ ⟨tx.toArray⟩).size ≤ 4000000000 := by
            have := congrArg List.length el
            rw [List.length_cons] at this
            have e2 : ((⟨#[61]⟩ : ByteArray) ++ ⟨tx.toArray⟩).data.toList.length = ((⟨#[61]⟩ : ByteArray) ++ ⟨tx.toArray⟩).size := rfl
            omega
          have h := HSX.out _ es W hW
          rw [el] at h
          refine h.mono ?_
          rintro e w' ⟨h, hb⟩
          rw [hsc] at h
          rcases h with ⟨i, h1, _⟩ | ⟨_, v, rfl, A', c', rfl, hc, -, hr⟩
          · cases h1
          · obtain ⟨b', o', rfl, hlt', hcell'⟩ := hr (by simp)
            exact ⟨b', o', c', rfl, hcell' 0 (by simp) 0 (by decide), hc, hb⟩)
        obtain ⟨A', c', e', hc', -, hrd⟩ := HV3.out
        injection e' with e1 _ e3
        subst e1 e3
        obtain ⟨b, p, rfl, hblt, hcell⟩ := hrd (by omega)
        have g0 : wr.cell? ⟨b, p + k * 2, none⟩ = some (.int .i64 q) := by have := hcell k hlt 0 (by decide); rw [← htk] at this; exact this
        have g1 : wr.cell? ⟨b, p + k * 2 + 1, none⟩ = some (.string ⟨tx.toArray⟩) := by have := hcell k hlt 1 (by decide); rw [← htk] at this; exact this
        have hemp : tx.isEmpty = false := by
          cases tx with
          | nil => exact absurd rfl hne
          | cons => rfl
        have HCC := Lib.hid hc'
        clear hsc htk hne htake hq hcell hrd
        go_upto_region 11 with (go_at_call 12; (with_reducible refine (HX.out _ (HB3.out.alloc HB3.out.size _)).mono ?_); rintro e w3 ⟨b', o', c2, rfl, h4, hc2, hb⟩; have HB4 := Lib.hid (below_tr (HB3.out.alloc HB3.out.size _) hb); have HV4 := Lib.hid ((HV3.out.below ((Below.refl _ _).alloc (Nat.le_refl _) _)).below hb); have bk := (Blk.new wr 37 #[.int .i64 q, .string ⟨tx.toArray⟩]).later hb; have HBK := Lib.hid bk; obtain ⟨x0, x1, -, -⟩ := bk.two; clear hb bk)
        clear g0 g1 HX
        by_cases h6 : q = 6
        · subst h6
          clear hkk
          go_quiet (fail)
          go_wp2_with fail
          exact ⟨⟨k + 1, _, by omega, by go_num, rfl, HQ, below_drewN HB4.out _, HV4.out.drewN _⟩, by simp [intOf]; omega⟩
        by_cases h8 : q = 8
        · subst h8
          clear hkk h6
          go_quiet (fail)
          go_wp2_with fail
          exact ⟨⟨k + 1, _, by omega, by go_num, rfl, HQ, below_drewN HB4.out _, HV4.out.drewN _⟩, by simp [intOf]; omega⟩
        · have hk1 := hkk h6 h8
          subst hk1
          have e6 : ((kk : Int) != 6) = true := by rw [bne_iff_ne]; exact h6
          have e8 : ((kk : Int) != 8) = true := by rw [bne_iff_ne]; exact h8
          clear hkk h6 h8
          go_quiet (fail)
          go_wp2_with fail
          exact ⟨⟨k + 1, _, by omega, by go_num, rfl, HQ, below_drewN HB4.out _, HV4.out.drewN _⟩, by simp [intOf]; omega⟩
      · obtain rfl : k = ts.length := by omega
        obtain rfl : o = s := ba_ext (by rw [hq.out, List.take_of_length_le (Nat.le_refl _)]; exact HCOV.out)
        go_wp2_with fail
        go_ret
        exact ⟨ret_bool (by simp), HB3.out⟩
end Go.Proofs.YtjgojbkmeggmhaaDoor
