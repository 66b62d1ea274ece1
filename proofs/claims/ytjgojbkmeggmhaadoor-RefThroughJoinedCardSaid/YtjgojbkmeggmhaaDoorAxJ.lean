/- cellref.hull. -/
import Derived.Test.YtjgojbkmeggmhaaDoorAxI
namespace Go.Proofs.YtjgojbkmeggmhaaDoor
open Go.RowKit

theorem Hs.start (w0 : World) (low high : Int) : Hs w0 (((((((w0.alloc (.cells #[.int .i64 low] 3)).alloc (.cells #[.int .i64 high] 3)).alloc (.cells #[.int .i64 0] 3)).alloc (.cells #[.int .i64 0] 3)).alloc (.cells #[.bool false] 4)).alloc (.cells #[.int .i64 0] 3)).alloc (.cells #[.int .i64 0] 3)) low high none 0 0 := by
  have nw : ∀ (w : World) (k : Nat) (cs : Array Value) (t : TypeId), w.heap.size = k → Blk (w.alloc (.cells cs t)) k t cs := fun w k cs t e => by subst e; exact Blk.new w t cs
  refine ⟨?_, ?_, ?_, ?_, ?_, ?_, ?_, ?_⟩
  · exact ((((((nw w0 _ _ _ rfl).alloc _).alloc _).alloc _).alloc _).alloc _).alloc _
  · exact (((((nw _ _ _ _ (by simp)).alloc _).alloc _).alloc _).alloc _).alloc _
  · exact ((((nw _ _ _ _ (by simp)).alloc _).alloc _).alloc _).alloc _
  · exact (((nw _ _ _ _ (by simp)).alloc _).alloc _).alloc _
  · exact ((nw _ _ _ _ (by simp)).alloc _).alloc _
  · exact (nw _ _ _ _ (by simp)).alloc _
  · exact nw _ _ _ _ (by simp)
  · exact (((((((Below.refl _ _).alloc (Nat.le_refl _) _).alloc (by simp) _).alloc (by simp; omega) _).alloc (by simp; omega) _).alloc (by simp; omega) _).alloc (by simp; omega) _).alloc (by simp; omega) _

set_option maxRecDepth 100000 in
set_option maxHeartbeats 4000000 in
theorem hull_any (w : World) (v : Value) (l : List Ax.Step) (low high : Int) (hv : Steps w v l) (hl : l.length ≤ 1000000000000) (ho : ∀ s ∈ l, Ax.okS s) (hb : Ax.bef l ≤ 2147483647) (ha : Ax.aft l ≤ 2147483647)
    (hlo : -1000000000 ≤ low ∧ low ≤ 1000000000000) (hhi : -1000000000 ≤ high ∧ high ≤ 1000000000000) :
    Calls Tryd.prog 45 #[v, .int .i64 low, .int .i64 high] w fun e w' =>
      e = .returned (.tuple #[.int .i64 (hfst (Ax.Hull l low high)), .int .i64 (hsnd (Ax.Hull l low high)), .bool (Ax.Hull l low high).isSome]) ∧ Below w.heap.size w w' := by
  obtain ⟨A, c, rfl⟩ := hv.shape
  have HV := Lib.hid hv
  have HO := Lib.hid ho
  have HBB := Lib.hid hb
  have HAA := Lib.hid ha
  have HS := Lib.hid (Hs.start w low high)
  have HK := Lib.hid fun W old now n acc (h : Hs w W low high acc old now) (ho : 0 ≤ old ∧ old ≤ 1000000000000) (hw : 0 ≤ now ∧ now ≤ 1000000000000) (hn : 1 ≤ n ∧ n ≤ 1000000000000) => hull1_any w W low high old now n acc h (by omega) (by omega) ho hw hn
  clear hv ho hb ha hlo hhi
  have HH := Lib.hid (show Ax.Hull l low high = Ax.hullF low high 0 0 l none from rfl)
  generalize Ax.Hull l low high = HU at *
  go_enter Tryd.func45, Tryd.ntmps45
  go_wp2_with fail
  go_loopw [20] (fun i wr => ∃ (k : Nat) (acc : Option (Int × Int)), k ≤ l.length ∧ i = .int .i64 k ∧ Hid (Hs w wr low high acc (Ax.bef (l.take k)) (Ax.aft (l.take k))) ∧ Hid (HU = Ax.hullF low high (Ax.bef (l.take k)) (Ax.aft (l.take k)) (l.drop k) acc)) (fun i _ => l.length - (intOf i).toNat)
  case atStart => exact ⟨0, none, Nat.zero_le _, rfl, HS, HH⟩
  case round =>
    obtain ⟨k, acc, hk, rfl, HR, HQ⟩ := hrel
    have ht1 : ∀ j, Ax.bef (l.take j) ≤ Ax.bef l ∧ Ax.aft (l.take j) ≤ Ax.aft l ∧ 0 ≤ Ax.bef (l.take j) ∧ 0 ≤ Ax.aft (l.take j) := fun j => by
      have e1 := Ax.bef_append (l.take j) (l.drop j)
      have e2 := Ax.aft_append (l.take j) (l.drop j)
      rw [List.take_append_drop] at e1 e2
      have n1 := Ax.bef_nonneg (l := l.drop j) fun s hs => HO.out s (List.mem_of_mem_drop hs)
      have n2 := Ax.aft_nonneg (l := l.drop j) fun s hs => HO.out s (List.mem_of_mem_drop hs)
      have n3 := Ax.bef_nonneg (l := l.take j) fun s hs => HO.out s (List.mem_of_mem_take hs)
      have n4 := Ax.aft_nonneg (l := l.take j) fun s hs => HO.out s (List.mem_of_mem_take hs)
      omega
    obtain ⟨t1, t2, t3, t4⟩ := ht1 k
    have s1 := HBB.out
    have s2 := HAA.out
    clear ht1
    obtain ⟨x5, f5⟩ := HR.out.c5.one
    obtain ⟨x6, f6⟩ := HR.out.c6.one
    by_cases hlt : k < l.length
    · obtain ⟨⟨q, n⟩, htk⟩ : ∃ x, x = l[k] := ⟨_, rfl⟩
      have hok := HO.out l[k] (List.getElem_mem hlt)
      rw [← htk] at hok
      obtain ⟨o1, o2, o3, o4⟩ := hok
      dsimp only at o1 o2 o3 o4
      have htake : l.take (k + 1) = l.take k ++ [(q, n)] := by rw [List.take_succ_eq_append_getElem hlt, ← htk]
      have hd : l.drop k = (q, n) :: l.drop (k + 1) := by rw [htk]; exact List.drop_eq_getElem_cons hlt
      have EB := Lib.hid (show Ax.bef (l.take (k + 1)) = Ax.bef (l.take k) + (if q ≠ 1 then n else 0) from by rw [htake, Ax.bef_append]; simp [Ax.bef])
      have EA := Lib.hid (show Ax.aft (l.take (k + 1)) = Ax.aft (l.take k) + (if q ≠ 2 then n else 0) from by rw [htake, Ax.aft_append]; simp [Ax.aft])
      have HQ1 := Lib.hid (HQ.out.trans (by rw [hd, Ax.hullF]))
      obtain ⟨A', c', e', hc', -, hrd⟩ := (HV.out.below HR.out.bel)
      injection e' with e1 _ e3
      subst e1 e3
      obtain ⟨b, p, rfl, hblt, hcell⟩ := hrd (by omega)
      have g0 : wr.cell? ⟨b, p + k * 2, none⟩ = some (.int .i64 q) := by have := hcell k hlt 0 (by decide); rw [← htk] at this; exact this
      have g1 : wr.cell? ⟨b, p + k * 2 + 1, none⟩ = some (.int .i64 n) := by have := hcell k hlt 1 (by decide); rw [← htk] at this; exact this
      have hz7 : w.heap.size + 7 ≤ wr.heap.size := HR.out.c6.lt
      clear htk hcell hrd htake hd HQ
      generalize Ax.bef (l.take k) = x at *
      generalize Ax.aft (l.take k) = y at *
      have HR2 := Lib.hid (HR.out.alloc (.cells #[.int .i64 q, .int .i64 n] 103))
      have bk := Blk.new wr 103 #[.int .i64 q, .int .i64 n]
      obtain ⟨u5, v5⟩ := HR2.out.c5.one
      obtain ⟨u6, v6⟩ := HR2.out.c6.one
      clear HR x5 x6 f5 f6
      rcases (show q = 0 ∨ q = 1 ∨ q = 2 by omega) with rfl | rfl | rfl
      · go_wp2_with (go_at_call 83; refine (HK.out _ x y n acc HR2.out (by omega) (by omega) (by omega)).mono ?_; rintro e w5 ⟨rfl, h5, hfr⟩; have bk5 := hfr _ _ _ hz7 bk; obtain ⟨y0, y1, -, -⟩ := bk5.two; have h6 := h5.setNow (y + n); have bk6 := bk5.far (p := ⟨w.heap.size + 6, 0, none⟩) (by dsimp only; omega) (.int .i64 (y + n)); obtain ⟨z0, z1, -, -⟩ := bk6.two; clear u5 v5 u6 v6; obtain ⟨u5, v5⟩ := h5.c5.one; obtain ⟨u6, v6⟩ := h5.c6.one; obtain ⟨p5, q5⟩ := h6.c5.one; have HR6 := Lib.hid h6; clear h5 h6 hfr bk5 bk6)
        exact ⟨⟨k + 1, _, by omega, by go_num, Lib.hid (by rw [show Ax.bef (l.take (k + 1)) = x + n from by rw [EB.out]; simp, show Ax.aft (l.take (k + 1)) = y + n from by rw [EA.out]; simp]; exact HR6.out.setOld _), Lib.hid (by rw [HQ1.out, show Ax.bef (l.take (k + 1)) = x + n from by rw [EB.out]; simp, show Ax.aft (l.take (k + 1)) = y + n from by rw [EA.out]; simp]; simp)⟩, by simp [intOf]; omega⟩
      · go_wp2_with fail
        exact ⟨⟨k + 1, _, by omega, by go_num, Lib.hid (by rw [show Ax.bef (l.take (k + 1)) = x from by rw [EB.out]; simp, show Ax.aft (l.take (k + 1)) = y + n from by rw [EA.out]; simp]; exact HR2.out.setNow _), Lib.hid (by rw [HQ1.out, show Ax.bef (l.take (k + 1)) = x from by rw [EB.out]; simp, show Ax.aft (l.take (k + 1)) = y + n from by rw [EA.out]; simp]; simp)⟩, by simp [intOf]; omega⟩
      · go_wp2_with fail
        exact ⟨⟨k + 1, _, by omega, by go_num, Lib.hid (by rw [show Ax.bef (l.take (k + 1)) = x + n from by rw [EB.out]; simp, show Ax.aft (l.take (k + 1)) = y from by rw [EA.out]; simp]; exact HR2.out.setOld _), Lib.hid (by rw [HQ1.out, show Ax.bef (l.take (k + 1)) = x + n from by rw [EB.out]; simp, show Ax.aft (l.take (k + 1)) = y from by rw [EA.out]; simp]; simp)⟩, by simp [intOf]; omega⟩
    · obtain rfl : k = l.length := by omega
      have HQ1 := Lib.hid (HQ.out.trans (by rw [List.drop_of_length_le (Nat.le_refl _), Ax.hullF]))
      clear HQ
      generalize Ax.bef (l.take l.length) = x at *
      generalize Ax.aft (l.take l.length) = y at *
      go_upto_region 15 with (go_at_call 83; refine (HK.out _ x y _ acc HR.out (by omega) (by omega) (by omega)).mono ?_; rintro e w5 ⟨rfl, h5, -⟩; rw [← HQ1.out] at h5; have HR5 := Lib.hid h5; obtain ⟨y2, -⟩ := h5.c2.one; obtain ⟨y3, -⟩ := h5.c3.one; obtain ⟨y4, -⟩ := h5.c4.one; clear h5)
      go_quiet (fail)
      go_wp2_with fail
      go_ret3
      exact ⟨rfl, below_drewN HR5.out.bel _⟩
end Go.Proofs.YtjgojbkmeggmhaaDoor
