/- value: number reads a decimal text. -/
import Derived.Test.YtmmlcponmdalmaaGreatDoorVaI
import Derived.Test.YtmmlcponmdalmaaGreatDoorShelfb
import Derived.Test.YtmmlcponmdalmaaGreatDoorVpB
namespace Go.Proofs.YtmmlcponmdalmaaGreatDoor
open Go.RowKit

/-- What stands behind the first digits of a decimal text: nothing, or a point and digits. -/
def Tail (b : List UInt8) : Prop := b = [] ∨ ∃ p, b = 46 :: p ∧ Nt.allD p
theorem Tail.head {b : List UInt8} (h : Tail b) : ∀ c t, b = c :: t → ¬ Nt.isD c ∧ c ≠ 44 := by
  rintro c t rfl
  rcases h with h | ⟨p, h, -⟩
  · cases h
  · cases h
    exact ⟨by unfold Nt.isD; decide, by decide⟩
theorem Tail.suffix {b : List UInt8} (h : Tail b) : Lib.hasSuffix b [37] = false ∧ Lib.trimSuffix b [37] = b := by
  have h1 : Lib.hasSuffix b [37] = false := by
    rcases h with rfl | ⟨p, rfl, hp⟩
    · rfl
    · rw [Bool.eq_false_iff]
      intro hs
      unfold Lib.hasSuffix at hs
      obtain ⟨t, ht⟩ := List.isSuffixOf_iff_suffix.1 hs
      have hm : (37 : UInt8) ∈ 46 :: p := by rw [← ht]; simp
      rcases List.mem_cons.1 hm with h | h
      · exact absurd h (by decide)
      · have := hp _ h
        unfold Nt.isD at this
        exact absurd this.1 (by decide)
  refine ⟨h1, ?_⟩
  unfold Lib.trimSuffix
  rw [h1]
  rfl
theorem Tail.comma {b : List UInt8} (h : Tail b) : Lib.hasPrefix b [44] = false := by
  rcases h with rfl | ⟨p, rfl, -⟩ <;> rfl
theorem hasPrefix_any (s : ByteArray) (p : ByteArray) (W : World) :
    Calls Tryz.prog 164 #[.string s, .string p] W fun e w' => e = .returned (.bool (Lib.hasPrefix s.data.toList p.data.toList)) ∧ W = w' :=
  (Tryz.strings_HasPrefix s p W).mono fun _ _ ⟨h1, h2⟩ => ⟨h1, h2.symm⟩
/-- value.grouped: the digits of a decimal text. -/
theorem grouped_dec (s a b : ByteArray) (w : World) (hs : s.data.toList = a.data.toList ++ b.data.toList) (ha : Nt.allD a.data.toList) (hb : Tail b.data.toList) (hl : s.size ≤ 1000000) :
    Calls Tryz.prog 112 #[.string s] w fun e w' => e = .returned (.tuple #[.string a, .string b]) ∧ Below w.heap.size w w' := by
  have HD := Lib.hid fun W => vdigits_any s a b W hs ha (fun c t h => (hb.head c t h).1) hl
  have HP := Lib.hid (show ∀ W, Calls Tryz.prog 164 #[.string b, .string ⟨#[44]⟩] W fun e w' => e = .returned (.bool false) ∧ W = w' from fun W => by rw [← hb.comma]; exact hasPrefix_any b ⟨#[44]⟩ W)
  have hsz : a.size ≤ 1000000 := by
    have := congrArg List.length hs
    rw [List.length_append] at this
    have e1 : a.data.toList.length = a.size := rfl
    have e2 : s.data.toList.length = s.size := rfl
    omega
  clear hs ha hb hl
  rcases (show a.size < 1 ∨ (1 ≤ a.size ∧ 3 < a.size) ∨ (1 ≤ a.size ∧ a.size ≤ 3) by omega) with h | ⟨h, h'⟩ | ⟨h, h'⟩
  · go_enter Tryz.func112, Tryz.ntmps112
    go_wp2_with (go_at_call 120; (with_reducible refine (HD.out _).mono ?_); rintro e w1 ⟨rfl, hb⟩; have HB := Lib.hid hb; clear hb)
    go_ret2
    exact ⟨rfl, HB.out⟩
  · go_enter Tryz.func112, Tryz.ntmps112
    go_wp2_with (go_at_call 120; (with_reducible refine (HD.out _).mono ?_); rintro e w1 ⟨rfl, hb⟩; have HB := Lib.hid hb; clear hb)
    go_ret2
    exact ⟨rfl, HB.out⟩
  · go_enter Tryz.func112, Tryz.ntmps112
    go_wp2_with (go_at_call 120; (with_reducible refine (HD.out _).mono ?_); rintro e w1 ⟨rfl, hb⟩; have HB := Lib.hid hb; clear hb)
    go_loop [4, 5, 6, 7] (fun u v _ _ => u = .string a ∧ v = .string b) (fun _ _ _ _ => 0)
    case atStart => exact ⟨rfl, rfl⟩
    case round =>
      obtain ⟨rfl, rfl⟩ := hrel
      go_wp2_with (go_at_call 164; (with_reducible refine (HP.out _).mono ?_); rintro e w2 ⟨rfl, rfl⟩)
      go_ret2
      exact ⟨rfl, HB.out⟩
end Go.Proofs.YtmmlcponmdalmaaGreatDoor

namespace Go.Proofs.YtmmlcponmdalmaaGreatDoor
open Go.RowKit

theorem vbyte_k (x : UInt8) (k : Nat) (hk : k < 256) (b : Bool) (h : (x == UInt8.ofNat k) = b) : ((x.toNat : Int) == (k : Int)) = b := by
  rw [← h]
  rw [Bool.eq_iff_iff, beq_iff_eq, beq_iff_eq]
  constructor
  · intro h1
    have h2 : x.toNat = k := by omega
    exact UInt8.toNat_inj.1 (by rw [h2]; simp; omega)
  · rintro rfl
    simp
    omega
theorem head_at (s : ByteArray) (c : UInt8) (t : List UInt8) (h : s.data.toList = c :: t) (h0 : 0 < s.size) : s[0] = c := by
  have : s.data.toList[0]? = some c := by rw [h]; rfl
  rw [Array.getElem?_toList, Array.getElem?_eq_some_iff] at this
  obtain ⟨_, h2⟩ := this
  exact h2
set_option maxRecDepth 100000 in
set_option maxHeartbeats 2000000 in
theorem number_dec (s a b f1 f2 : ByteArray) (m : Bool) (w : World) (hs : s.data.toList = Nt.sgn m ++ (a.data.toList ++ b.data.toList)) (ha : Nt.allD a.data.toList) (h0 : a.data.toList ≠ []) (hb : Tail b.data.toList) (hl : s.size ≤ 1000000)
    (hp : ∀ W, Below w.heap.size w W → Calls Tryz.prog 114 #[.string s] W fun e w' => e = .returned (.tuple #[.agg #[.string f1, .string f2], .int .i64 0]) ∧ Below W.heap.size W w') :
    Calls Tryz.prog 58 #[.string s] w fun e w' => e = .returned (.tuple #[.agg #[.string f1, .string f2], .bool true]) ∧ Below w.heap.size w w' := by
  have HL0 := Lib.hid ((Loc.start w).alloc' rfl 24 #[.string ⟨#[]⟩, .string ⟨#[]⟩])
  have HP := Lib.hid hp
  have HCS := Lib.hid (show ∀ W, Calls Tryz.prog 113 #[.string b, .string ⟨#[37]⟩] W fun e w' => e = .returned (.tuple #[.string b, .bool false]) ∧ W = w' from fun W => by
    have hbs : b.size ≤ 9223372036854775807 := by
      have := congrArg List.length hs
      rw [List.length_append, List.length_append] at this
      have e1 : b.data.toList.length = b.size := rfl
      have e2 : s.data.toList.length = s.size := rfl
      omega
    have h := Tryz.strings_CutSuffix b ⟨#[37]⟩ W hbs
    rw [show (⟨#[37]⟩ : ByteArray).data.toList = [37] from rfl, hb.suffix.1, hb.suffix.2, show (⟨b.data.toList.toArray⟩ : ByteArray) = b from ba_ext (by simp)] at h
    exact h.mono fun _ _ ⟨h1, h2⟩ => ⟨h1, h2.symm⟩)
  have hz : a.size + b.size ≤ 1000000 := by
    have := congrArg List.length hs
    rw [List.length_append, List.length_append] at this
    have e0 : a.data.toList.length = a.size := rfl
    have e1 : b.data.toList.length = b.size := rfl
    have e2 : s.data.toList.length = s.size := rfl
    omega
  have hza : a.size ≤ 1000000 := by omega
  have hzb : b.size ≤ 1000000 := by omega
  have hne : (a.toList.isEmpty) = false := by
    rw [Lib.toList_data]
    cases h : a.data.toList with
    | nil => exact absurd h h0
    | cons => rfl
  cases m with
  | false =>
    have hs' : s.data.toList = a.data.toList ++ b.data.toList := hs
    have HG := Lib.hid fun W => grouped_dec s a b W hs' ha hb hl
    have hsz : 0 < s.size := by
      have := congrArg List.length hs'
      rw [List.length_append] at this
      have e1 := List.length_pos_iff.2 h0
      have e2 : s.data.toList.length = s.size := rfl
      omega
    obtain ⟨c, t, hc⟩ : ∃ c t, a.data.toList = c :: t := by
      cases h : a.data.toList with
      | nil => exact absurd h h0
      | cons c t => exact ⟨c, t, rfl⟩
    have hat := head_at s c (t ++ b.data.toList) (by rw [hs', hc]; rfl) hsz
    have hd : Nt.isD c := ha c (by rw [hc]; simp)
    have e43 : ((s[0].toNat : Int) == 43) = false := vbyte_k _ 43 (by decide) false (by
      rw [hat, beq_eq_false_iff_ne]; rintro rfl; unfold Nt.isD at hd; exact absurd hd.1 (by decide))
    have e45 : ((s[0].toNat : Int) == 45) = false := vbyte_k _ 45 (by decide) false (by
      rw [hat, beq_eq_false_iff_ne]; rintro rfl; unfold Nt.isD at hd; exact absurd hd.1 (by decide))
    have HE := Lib.hid (show (⟨#[]⟩ ++ a ++ b : ByteArray) = s from ba_ext (by rw [ByteArray.toList_data_append, ByteArray.toList_data_append, hs']; rfl))
    clear hp hs hs' ha h0 hb hl hc hat hd
    go_enter Tryz.func58, Tryz.ntmps58
    go_wp2_with (first
      | (go_at_call 113; (with_reducible refine (HCS.out _).mono ?_); rintro e w1 ⟨rfl, rfl⟩)
      | (go_at_call 112; (with_reducible refine (HG.out _).mono ?_); rintro e w2 ⟨rfl, hb⟩; have HL2 := Lib.hid (HL0.out.step hb); clear hb)
      | (go_at_call 114; rw [HE.out]; (with_reducible refine (HP.out _ HL2.out.bel).mono ?_); rintro e w3 ⟨rfl, hb⟩; have HL3 := Lib.hid ((HL2.out.step hb).alloc 24 #[.string f1, .string f2]); obtain ⟨x0, x1, y0, y1⟩ := (HL3.out.blk (g := w.heap.size) (t := 24) (cs := #[.string ⟨#[]⟩, .string ⟨#[]⟩]) (by simp)).two; clear hb))
    obtain ⟨-, q0, q1⟩ := (HL3.out.blk (g := w.heap.size) (t := 24) (cs := #[.string ⟨#[]⟩, .string ⟨#[]⟩]) (by simp)).two_set (.string f1) (.string f2)
    refine bodyPost_ret (v := .tuple #[.agg #[.string f1, .string f2], .bool true]) (by simp [results, Tryz.results58, go_sem, q0, q1]) rfl ⟨rfl, ?_⟩
    exact below_two HL3.out.bel (Nat.le_refl _) _ _
  | true =>
    obtain ⟨r, hr⟩ : ∃ r : ByteArray, r.data.toList = a.data.toList ++ b.data.toList := ⟨⟨(a.data.toList ++ b.data.toList).toArray⟩, rfl⟩
    have hs' : s.data.toList = 45 :: r.data.toList := by rw [hr]; exact hs
    have hsz : r.size + 1 = s.size := by
      have := congrArg List.length hs'
      rw [List.length_cons] at this
      exact this.symm
    have HG := Lib.hid fun W => grouped_dec r a b W hr ha hb (by omega)
    have hs0 : 0 < s.size := by omega
    have hat := head_at s 45 r.data.toList hs' hs0
    have e43 : ((s[0].toNat : Int) == 43) = false := vbyte_k _ 43 (by decide) false (by rw [hat]; decide)
    have e45 : ((s[0].toNat : Int) == 45) = true := vbyte_k _ 45 (by decide) true (by rw [hat]; decide)
    have x1 : s.extract 0 1 = ⟨#[45]⟩ := ba_ext (by rw [Lib.extract_data, hs']; rfl)
    have x2 : s.extract 1 s.size = r := ba_ext (by
      rw [Lib.extract_data, hs']
      simp only [List.drop_succ_cons, List.drop_zero]
      exact List.take_of_length_le (by have : r.data.toList.length = r.size := rfl; omega))
    have X1 := Lib.hid x1
    have X2 := Lib.hid x2
    have HTP := Lib.hid (show ∀ W, Calls Tryz.prog 111 #[.string ⟨#[45]⟩, .string ⟨#[43]⟩] W fun e w' => e = .returned (.string ⟨#[45]⟩) ∧ W = w' from fun W => (Tryz.strings_TrimPrefix ⟨#[45]⟩ ⟨#[43]⟩ W).mono fun _ _ ⟨h1, h2⟩ => ⟨h1, h2.symm⟩)
    have HE := Lib.hid (show (⟨#[45]⟩ ++ a ++ b : ByteArray) = s from ba_ext (by rw [ByteArray.toList_data_append, ByteArray.toList_data_append, hs', hr]; rfl))
    have hs1 : (1 : Int) ≤ s.size := by omega
    clear hp hs hs' ha h0 hb hl hat hr x1 x2 hsz
    go_enter Tryz.func58, Tryz.ntmps58
    go_upto_region 3 with fail
    go_quiet ((go_at_call 111; rw [X1.out]; exact Calls.quiet_of_same ((HTP.out _).mono fun _ _ ⟨h1, h2⟩ => ⟨h1, h2.symm⟩)))
    rw [X2.out]
    go_wp2_with (first
      | (go_at_call 113; (with_reducible refine (HCS.out _).mono ?_); rintro e w1 ⟨rfl, rfl⟩)
      | (go_at_call 112; (with_reducible refine (HG.out _).mono ?_); rintro e w2 ⟨rfl, hb⟩; have HL2 := Lib.hid ((HL0.out.drewN _).step hb); clear hb)
      | (go_at_call 114; rw [HE.out]; (with_reducible refine (HP.out _ HL2.out.bel).mono ?_); rintro e w3 ⟨rfl, hb⟩; have HL3 := Lib.hid ((HL2.out.step hb).alloc 24 #[.string f1, .string f2]); obtain ⟨x0, x1, y0, y1⟩ := (HL3.out.blk (g := w.heap.size) (t := 24) (cs := #[.string ⟨#[]⟩, .string ⟨#[]⟩]) (by simp)).two; clear hb))
    obtain ⟨-, q0, q1⟩ := (HL3.out.blk (g := w.heap.size) (t := 24) (cs := #[.string ⟨#[]⟩, .string ⟨#[]⟩]) (by simp)).two_set (.string f1) (.string f2)
    refine bodyPost_ret (v := .tuple #[.agg #[.string f1, .string f2], .bool true]) (by simp [results, Tryz.results58, go_sem, q0, q1]) rfl ⟨rfl, ?_⟩
    exact below_two HL3.out.bel (Nat.le_refl _) _ _
end Go.Proofs.YtmmlcponmdalmaaGreatDoor

namespace Go.Proofs.YtmmlcponmdalmaaGreatDoor
open Go.RowKit

/-- A decimal text is a sign, digits and a tail. -/
theorem decT_dot (m : Bool) (q k : Nat) (hk : k ≠ 0) : ∃ a p : List UInt8, Nt.decT m q k = Nt.sgn (m && decide (q ≠ 0)) ++ (a ++ 46 :: p) ∧ Nt.allD a ∧ Nt.allD p ∧ a ≠ [] ∧ p.length = k ∧ Nt.dval (a ++ p) = q := by
  have hall := Nt.allD_pad k (Nt.allD_dd q)
  have hlen := Nt.pad_len k (Lib.decDigits q)
  have hval := Nt.dval_pad k q
  obtain ⟨P, hP⟩ : ∃ P, P = Nt.pad k (Lib.decDigits q) := ⟨_, rfl⟩
  rw [← hP] at hall hlen hval
  refine ⟨P.take (P.length - k), P.drop (P.length - k), ?_, fun c hc => hall c (List.mem_of_mem_take hc), fun c hc => hall c (List.mem_of_mem_drop hc), ?_, ?_, ?_⟩
  · unfold Nt.decT Nt.dotted
    rw [if_neg hk, ← hP]
  · intro h
    have := congrArg List.length h
    rw [List.length_take] at this
    simp only [List.length_nil] at this
    omega
  · rw [List.length_drop]
    omega
  · rw [List.take_append_drop]
    exact hval
theorem decT_int (m : Bool) (q : Nat) : ∃ a : List UInt8, Nt.decT m q 0 = Nt.sgn (m && decide (q ≠ 0)) ++ a ∧ Nt.allD a ∧ a ≠ [] ∧ Nt.dval a = q := by
  have hall := Nt.allD_pad 0 (Nt.allD_dd q)
  have hlen := Nt.pad_len 0 (Lib.decDigits q)
  have hval := Nt.dval_pad 0 q
  obtain ⟨P, hP⟩ : ∃ P, P = Nt.pad 0 (Lib.decDigits q) := ⟨_, rfl⟩
  rw [← hP] at hall hlen hval
  refine ⟨P, ?_, hall, ?_, hval⟩
  · unfold Nt.decT Nt.dotted
    rw [if_pos rfl, ← hP]
  · intro h
    rw [h] at hlen
    simp at hlen
theorem decT_split (m : Bool) (q k : Nat) : ∃ a b : List UInt8, Nt.decT m q k = Nt.sgn (m && decide (q ≠ 0)) ++ (a ++ b) ∧ Nt.allD a ∧ a ≠ [] ∧ Tail b := by
  by_cases hk : k = 0
  · subst hk
    obtain ⟨a, h1, h2, h3, -⟩ := decT_int m q
    exact ⟨a, [], by rw [List.append_nil]; exact h1, h2, h3, .inl rfl⟩
  · obtain ⟨a, p, h1, h2, h3, h4, -, -⟩ := decT_dot m q k hk
    exact ⟨a, 46 :: p, h1, h2, h4, .inr ⟨p, rfl, h3⟩⟩

/-- Plain characters. -/
theorem dec_ascii (s : ByteArray) (c : UInt8) (t : List UInt8) (h : s.data.toList = c :: t) (hc : c.toNat < 128) : Lib.decodeGo s = (c.toNat, 1) := by
  have hs : 0 < s.size := by
    have := congrArg List.length h
    have e : s.data.toList.length = s.size := rfl
    simp only [List.length_cons] at this
    omega
  have hg : s.get! 0 = c := by
    have h0 : s.data.toList[0]? = some c := by rw [h]; rfl
    rw [Array.getElem?_toList] at h0
    obtain ⟨hlt, h2⟩ := Array.getElem?_eq_some_iff.1 h0
    exact (getElem!_pos s.data 0 hlt).trans h2
  unfold Lib.decodeGo
  rw [if_neg (by omega), Lib.decode_at]
  have : (s.get! 0).toNat < 128 := by rw [hg]; exact hc
  rw [Lib.decodeN_ascii _ _ _ _ _ this, hg]
theorem ext1 (s : ByteArray) (c : UInt8) (t : List UInt8) (h : s.data.toList = c :: t) : (s.extract 1 s.size).data.toList = t := by
  rw [Lib.extract_data, h]
  have := congrArg List.length h
  have e : s.data.toList.length = s.size := rfl
  simp only [List.length_cons] at this
  simp only [List.drop_succ_cons, List.drop_zero]
  exact List.take_of_length_le (by omega)
theorem chB_ascii {c : UInt8} (h1 : 32 ≤ c.toNat) (h2 : c.toNat < 127) : chB (c.toNat : Int) = true := (chB_iff _).2 (.inr (.inr (.inl ⟨by omega, by omega⟩)))
theorem txtF_step (f : Nat) (s : ByteArray) (c : UInt8) (t : List UInt8) (h : s.data.toList = c :: t) (h1 : 32 ≤ c.toNat) (h2 : c.toNat < 127) : txtF (f + 1) s = txtF f (s.extract 1 s.size) := by
  have hs : s.size ≠ 0 := by
    have := congrArg List.length h
    have e : s.data.toList.length = s.size := rfl
    simp only [List.length_cons] at this
    omega
  rw [txtF, if_neg hs, dec_ascii s c t h (by omega)]
  dsimp only
  rw [if_neg]
  rintro (⟨e, -⟩ | e)
  · omega
  · rw [chB_ascii h1 h2] at e
    cases e
theorem txtF_ascii : ∀ (f : Nat) (s : ByteArray), (∀ c ∈ s.data.toList, 32 ≤ c.toNat ∧ c.toNat < 127) → txtF f s = true := by
  intro f
  induction f with
  | zero => intro s _; rfl
  | succ f ih =>
    intro s hs
    cases h : s.data.toList with
    | nil =>
      have e : s.data.toList.length = s.size := rfl
      rw [h] at e
      rw [txtF, if_pos (by simpa using e.symm)]
    | cons c t =>
      have hc := hs c (by rw [h]; simp)
      rw [txtF_step f s c t h hc.1 hc.2]
      refine ih _ fun x hx => ?_
      rw [ext1 s c t h] at hx
      exact hs x (by rw [h]; exact List.mem_cons_of_mem _ hx)
theorem txtE_ascii (s : ByteArray) (hs : ∀ c ∈ s.data.toList, 32 ≤ c.toNat ∧ c.toNat < 127) (hl : s.size ≤ 32767) : txtE s = 0 := by
  unfold txtE
  rw [if_neg (by omega), if_pos (txtF_ascii _ _ hs)]
theorem txtE_quote (t : ByteArray) (h : txtE t = 0) (hl : t.size < 32767) : txtE (⟨#[39]⟩ ++ t) = 0 := by
  have e : (⟨#[39]⟩ ++ t : ByteArray).data.toList = 39 :: t.data.toList := by rw [ByteArray.toList_data_append]; rfl
  have hz : (⟨#[39]⟩ ++ t : ByteArray).size = t.size + 1 := by
    have := congrArg List.length e
    rw [List.length_cons] at this
    exact this
  have hx : (⟨#[39]⟩ ++ t : ByteArray).extract 1 (⟨#[39]⟩ ++ t : ByteArray).size = t := ba_ext (ext1 _ _ _ e)
  unfold txtE at h ⊢
  rw [if_neg (by omega)] at h
  rw [if_neg (by omega)]
  have ht : txtF t.size t = true := by
    by_cases hh : txtF t.size t = true
    · exact hh
    · rw [if_neg hh] at h; cases h
  rw [hz, txtF_step _ _ 39 _ e (by decide) (by decide), hx, if_pos ht]

/-- The text begins with a sign or a digit. -/
def NumHead (s : ByteArray) : Prop := ∃ c t, s.data.toList = c :: t ∧ (c = 45 ∨ Nt.isD c)
theorem NumHead.of {s : ByteArray} {m : Bool} {a b : List UInt8} (h : s.data.toList = Nt.sgn m ++ (a ++ b)) (ha : Nt.allD a) (h0 : a ≠ []) : NumHead s := by
  cases m with
  | true => exact ⟨45, a ++ b, h, .inl rfl⟩
  | false =>
    cases a with
    | nil => exact absurd rfl h0
    | cons c t => exact ⟨c, t ++ b, h, .inr (ha c (by simp))⟩
theorem NumHead.ne {s : ByteArray} (h : NumHead s) (l : List UInt8) (hl : ∀ c t, l = c :: t → c ≠ 45 ∧ ¬ Nt.isD c) : (s.toList == l) = false := by
  obtain ⟨c, t, h1, h2⟩ := h
  rw [beq_eq_false_iff_ne, Lib.toList_data, h1]
  intro e
  obtain ⟨h3, h4⟩ := hl c t e.symm
  rcases h2 with h | h
  · exact h3 h
  · exact h4 h
theorem isD_rng {c : UInt8} (h : Nt.isD c) : 48 ≤ c.toNat ∧ c.toNat ≤ 57 := by
  unfold Nt.isD at h
  exact ⟨h.1, h.2⟩
theorem NumHead.low {s : ByteArray} (h : NumHead s) : NumHead ⟨(lowL s.data.toList).toArray⟩ := by
  obtain ⟨c, t, h1, h2⟩ := h
  refine ⟨lowB c, lowL t, by rw [h1]; rfl, ?_⟩
  have : lowB c = c := by
    refine lowB_no ?_
    rcases h2 with rfl | h
    · decide
    · have := isD_rng h
      omega
  rw [this]
  exact h2
theorem NumHead.true' {s : ByteArray} (h : NumHead s) : (s.toList == [116, 114, 117, 101]) = false := h.ne _ (by rintro c t e; cases e; exact ⟨by decide, by unfold Nt.isD; decide⟩)
theorem NumHead.false' {s : ByteArray} (h : NumHead s) : (s.toList == [102, 97, 108, 115, 101]) = false := h.ne _ (by rintro c t e; cases e; exact ⟨by decide, by unfold Nt.isD; decide⟩)
theorem NumHead.fault {s : ByteArray} (h : NumHead s) (k : Nat) (hk : k ≤ 8) : (s.toList == (faultS k).toList) = false := by
  rw [Lib.toList_data (faultS k)]
  rcases (show k = 0 ∨ k = 1 ∨ k = 2 ∨ k = 3 ∨ k = 4 ∨ k = 5 ∨ k = 6 ∨ k = 7 ∨ k = 8 by omega) with rfl | rfl | rfl | rfl | rfl | rfl | rfl | rfl | rfl <;> exact h.ne _ (by rintro c t e; cases e <;> exact ⟨by decide, by unfold Nt.isD; decide⟩)
theorem NumHead.quote {s : ByteArray} (h : NumHead s) : Lib.hasPrefix s.data.toList [39] = false := by
  obtain ⟨c, t, h1, h2⟩ := h
  rw [h1]
  have : (39 : UInt8) ≠ c := by
    rintro rfl
    rcases h2 with h | h
    · exact absurd h (by decide)
    · unfold Nt.isD at h
      exact absurd h.1 (by decide)
  show ((39 : UInt8) == c && List.isPrefixOf [] t) = false
  rw [beq_eq_false_iff_ne.2 this]
  rfl
theorem num_ascii {s : ByteArray} {m : Bool} {a b : List UInt8} (h : s.data.toList = Nt.sgn m ++ (a ++ b)) (ha : Nt.allD a) (hb : Tail b) : ∀ c ∈ s.data.toList, 32 ≤ c.toNat ∧ c.toNat < 127 := by
  intro c hc
  rw [h] at hc
  have hd : ∀ x, Nt.isD x → 32 ≤ x.toNat ∧ x.toNat < 127 := fun x hx => by have := isD_rng hx; omega
  rcases List.mem_append.1 hc with hc | hc
  · cases m with
    | true => obtain rfl : c = 45 := by simpa [Nt.sgn] using hc
              decide
    | false => exact absurd hc (by simp [Nt.sgn])
  · rcases List.mem_append.1 hc with hc | hc
    · exact hd _ (ha c hc)
    · rcases hb with rfl | ⟨p, rfl, hp⟩
      · cases hc
      · rcases List.mem_cons.1 hc with rfl | hc
        · decide
        · exact hd _ (hp c hc)

theorem mem_tw (p : UInt8 → Bool) : ∀ (l : List UInt8) (b : UInt8), b ∈ l.takeWhile p → p b = true := by
  intro l
  induction l with
  | nil => intro b h; cases h
  | cons x l ih =>
    intro b h
    rw [List.takeWhile_cons] at h
    split at h
    · next hx =>
      rcases List.mem_cons.1 h with rfl | h
      · exact hx
      · exact ih b h
    · cases h
/-- Zeros at the end are struck, and a point behind them. -/
theorem trimZ (p : List UInt8) : ∃ p' j, p = p' ++ List.replicate j 48 ∧ (∀ x, p'.getLast? = some x → x ≠ 48) ∧ Lib.trimRightB p 48 = p' := by
  unfold Lib.trimRightB
  have h1 : p.reverse = p.reverse.takeWhile (· == 48) ++ p.reverse.dropWhile (· == 48) := (List.takeWhile_append_dropWhile).symm
  have h2 : p.reverse.takeWhile (· == 48) = List.replicate (p.reverse.takeWhile (· == 48)).length 48 := List.eq_replicate_of_mem fun b hb => by
    have := mem_tw _ _ _ hb
    simpa using this
  refine ⟨(p.reverse.dropWhile (· == 48)).reverse, (p.reverse.takeWhile (· == 48)).length, ?_, ?_, rfl⟩
  · have := congrArg List.reverse h1
    rw [List.reverse_reverse, List.reverse_append, h2, List.reverse_replicate] at this
    exact this
  · intro x hx
    rw [List.getLast?_reverse] at hx
    have := List.head?_dropWhile_not (· == 48) p.reverse
    rw [hx] at this
    simpa using this
theorem trimR_app (l p : List UInt8) (c : UInt8) (hc : c ≠ 48) : Lib.trimRightB (l ++ c :: p) 48 = l ++ c :: Lib.trimRightB p 48 := by
  unfold Lib.trimRightB
  rw [List.reverse_append, List.reverse_cons]
  obtain ⟨r, hr⟩ : ∃ r, r = p.reverse := ⟨_, rfl⟩
  rw [← hr]
  have : ∀ r : List UInt8, List.dropWhile (· == 48) (r ++ [c] ++ l.reverse) = List.dropWhile (· == 48) r ++ c :: l.reverse := by
    intro r
    induction r with
    | nil => simp [hc]
    | cons x r ih =>
      by_cases hx : x = 48
      · subst hx
        simpa using ih
      · simp [hx]
  rw [this]
  simp
theorem trimS_dot (l : List UInt8) : Lib.trimSuffix (l ++ [46]) [46] = l := by
  unfold Lib.trimSuffix
  rw [if_pos (by unfold Lib.hasSuffix; exact List.isSuffixOf_iff_suffix.2 ⟨l, rfl⟩)]
  simp
theorem trimS_no (l : List UInt8) (h : ∀ x, l.getLast? = some x → x ≠ 46) : Lib.trimSuffix l [46] = l := by
  unfold Lib.trimSuffix
  rw [if_neg]
  intro hs
  unfold Lib.hasSuffix at hs
  obtain ⟨t, ht⟩ := List.isSuffixOf_iff_suffix.1 hs
  exact h 46 (by rw [← ht]; simp) rfl
theorem dval_app_zeros (l : List UInt8) (j : Nat) : Nt.dval (l ++ List.replicate j 48) = Nt.dval l * 10 ^ j := by
  have h := Nt.dval_zeros j []
  rw [List.append_nil] at h
  rw [Nt.dval_append, List.length_replicate, h]
  simp [Nt.dval]
/-- What is shown of a number by places. -/
theorem trim_dec (m : Bool) (q k : Nat) (hk : k ≠ 0) : ∃ (a b : List UInt8) (x j i : Nat), Lib.trimSuffix (Lib.trimRightB (Nt.decT m q k) 48) [46] = Nt.sgn (m && decide (q ≠ 0)) ++ (a ++ b) ∧ Nt.allD a ∧ a ≠ [] ∧ i + j = k ∧ x * 10 ^ j = q ∧ (b = [] ∧ i = 0 ∧ Nt.dval a = x ∨ ∃ p, b = 46 :: p ∧ p.length = i ∧ p ≠ [] ∧ Nt.allD p ∧ Nt.dval (a ++ p) = x) := by
  obtain ⟨a, p, h1, h2, h3, h4, h5, h6⟩ := decT_dot m q k hk
  obtain ⟨p', j, e1, e2, e3⟩ := trimZ p
  have hz : Nt.dval (a ++ p') * 10 ^ j = q := by
    rw [← h6, e1, ← List.append_assoc, dval_app_zeros]
  have hlen : p'.length + j = k := by
    rw [← h5, e1, List.length_append, List.length_replicate]
  have hall : Nt.allD p' := fun c hc => h3 c (by rw [e1]; exact List.mem_append_left _ hc)
  rw [h1, ← List.append_assoc, trimR_app _ _ _ (by decide), e3]
  by_cases hp : p' = []
  · subst hp
    rw [trimS_dot]
    rw [List.append_nil] at hz
    exact ⟨a, [], _, j, 0, by rw [List.append_nil], h2, h4, by simpa using hlen, hz, .inl ⟨rfl, rfl, rfl⟩⟩
  · rw [trimS_no]
    · exact ⟨a, 46 :: p', _, j, p'.length, by rw [List.append_assoc], h2, h4, hlen, hz, .inr ⟨p', rfl, rfl, hp, hall, rfl⟩⟩
    · intro x hx
      have : p'.getLast? = some x := by
        rw [List.getLast?_append] at hx
        cases p' with
        | nil => exact absurd rfl hp
        | cons c t =>
          rw [List.getLast?_cons_cons] at hx
          cases hh : (c :: t).getLast? with
          | none => simp at hh
          | some y => rw [hh] at hx; simpa using hx
      rintro rfl
      have hm := List.mem_of_getLast? this
      have := hall _ hm
      unfold Nt.isD at this
      exact absurd this.1 (by decide)
end Go.Proofs.YtmmlcponmdalmaaGreatDoor
