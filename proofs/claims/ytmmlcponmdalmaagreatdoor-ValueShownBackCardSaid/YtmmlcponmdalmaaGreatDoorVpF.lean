/- ValueShownBack: the walk. -/
import Derived.Test.YtmmlcponmdalmaaGreatDoorVpC
import Derived.Test.YtmmlcponmdalmaaGreatDoorVpD
import Derived.Test.YtmmlcponmdalmaaGreatDoorVpE
import Derived.Test.YtmmlcponmdalmaaGreatDoorVoE
namespace Go.Proofs.YtmmlcponmdalmaaGreatDoor
open Go.RowKit

set_option maxRecDepth 100000 in
set_option maxHeartbeats 8000000 in
theorem back_bad (k : Int) (num den text : ByteArray) (on : Bool) (code rows cols : Int) (A : Option Addr) (n c : Nat) (w : World) (he : VEnv w)
    (hc : ∀ W, Below w.heap.size w W → Calls Tryz.prog 15 #[.agg #[.int .i64 k, .string num, .string den, .string text, .bool on, .int .i64 code, .int .i64 rows, .int .i64 cols, .slice A n c]] W fun e w' => ∃ cc : Int, e = .returned (.int .i64 cc) ∧ (cc = 0 → k = 5) ∧ Below W.heap.size W w') :
    Calls Tryz.prog 4 #[.agg #[.int .i64 k, .string num, .string den, .string text, .bool on, .int .i64 code, .int .i64 rows, .int .i64 cols, .slice A n c]] w fun e w' => e = .returned (.bool true) ∧ Below w.heap.size w w' := by
  have HV := Lib.hid fun W (hW : Below w.heap.size w W) => values_any W (he.below hW)
  have HC := Lib.hid hc
  clear he hc
  have HL := Lib.hid ((Loc.start w).alloc' rfl 27 #[.int .i64 k, .string num, .string den, .string text, .bool on, .int .i64 code, .int .i64 rows, .int .i64 cols, .slice A n c])
  obtain ⟨x0, x1, x2, x3, x4, x5, x6, x7, x8⟩ := (HL.out.blk (g := w.heap.size) (t := 27) (cs := #[.int .i64 k, .string num, .string den, .string text, .bool on, .int .i64 code, .int .i64 rows, .int .i64 cols, .slice A n c]) (by simp)).nine
  go_enter Tryz.func4, Tryz.ntmps4
  go_wp2_with (first
    | (go_at_call 14; (with_reducible refine (HV.out _ HL.out.bel).mono ?_); rintro e w1 ⟨rfl, hb⟩; have hl := HL.out.step hb; clear HL x0 x1 x2 x3 x4 x5 x6 x7 x8; have HL := Lib.hid hl; clear hl hb; obtain ⟨x0, x1, x2, x3, x4, x5, x6, x7, x8⟩ := (HL.out.blk (g := w.heap.size) (t := 27) (cs := #[.int .i64 k, .string num, .string den, .string text, .bool on, .int .i64 code, .int .i64 rows, .int .i64 cols, .slice A n c]) (by simp)).nine)
    | (go_at_call 15; (with_reducible refine (HC.out _ HL.out.bel).mono ?_); rintro e w1 ⟨cc, rfl, hok, hb⟩; have hl := HL.out.step hb; clear HL x0 x1 x2 x3 x4 x5 x6 x7 x8; have HL := Lib.hid hl; clear hl hb; obtain ⟨x0, x1, x2, x3, x4, x5, x6, x7, x8⟩ := (HL.out.blk (g := w.heap.size) (t := 27) (cs := #[.int .i64 k, .string num, .string den, .string text, .bool on, .int .i64 code, .int .i64 rows, .int .i64 cols, .slice A n c]) (by simp)).nine; rcases Decidable.em (cc = 0) with rfl | hne; (obtain rfl := hok rfl)))
  all_goals
    go_ret
    exact ⟨rfl, HL.out.bel⟩
set_option maxRecDepth 100000 in
set_option maxHeartbeats 8000000 in
theorem back_o (k : Int) (num den text : ByteArray) (on : Bool) (code rows cols : Int) (A : Option Addr) (n c : Nat) (S : ByteArray) (EV : Value) (w : World) (he : VEnv w) (k1 : ((k : Int) == 1) = false) (k2 : ((k : Int) == 2) = false) (k5 : ((k : Int) == 5) = false)
    (hs : ∀ W, VEnv W → Calls Tryz.prog 16 #[.agg #[.int .i64 k, .string num, .string den, .string text, .bool on, .int .i64 code, .int .i64 rows, .int .i64 cols, .slice A n c]] W fun e w' => e = .returned (.tuple #[.string S, .int .i64 0]) ∧ Below W.heap.size W w')
    (hc : ∀ W, VEnv W → Calls Tryz.prog 15 #[.agg #[.int .i64 k, .string num, .string den, .string text, .bool on, .int .i64 code, .int .i64 rows, .int .i64 cols, .slice A n c]] W fun e w' => e = .returned (.int .i64 0) ∧ Below W.heap.size W w')
    (hen : ∀ W, VEnv W → Calls Tryz.prog 18 #[.string S] W fun e w' => e = .returned (EV) ∧ Below W.heap.size W w')
    (hsm : ∀ W, Calls Tryz.prog 19 #[EV, .agg #[.int .i64 k, .string num, .string den, .string text, .bool on, .int .i64 code, .int .i64 rows, .int .i64 cols, .slice A n c]] W fun e w' => e = .returned (.bool true) ∧ Below W.heap.size W w') :
    Calls Tryz.prog 4 #[.agg #[.int .i64 k, .string num, .string den, .string text, .bool on, .int .i64 code, .int .i64 rows, .int .i64 cols, .slice A n c]] w fun e w' => e = .returned (.bool true) ∧ Below w.heap.size w w' := by
  have HV := Lib.hid fun W (hW : Below w.heap.size w W) => values_any W (he.below hW)
  have HS := Lib.hid fun W (hW : Below w.heap.size w W) => hs W (he.below hW)
  have HC := Lib.hid fun W (hW : Below w.heap.size w W) => hc W (he.below hW)
  have HEN := Lib.hid fun W (hW : Below w.heap.size w W) => hen W (he.below hW)
  have HSM := Lib.hid hsm
  clear he hs hc
  have HL := Lib.hid ((Loc.start w).alloc' rfl 27 #[.int .i64 k, .string num, .string den, .string text, .bool on, .int .i64 code, .int .i64 rows, .int .i64 cols, .slice A n c])
  obtain ⟨x0, x1, x2, x3, x4, x5, x6, x7, x8⟩ := (HL.out.blk (g := w.heap.size) (t := 27) (cs := #[.int .i64 k, .string num, .string den, .string text, .bool on, .int .i64 code, .int .i64 rows, .int .i64 cols, .slice A n c]) (by simp)).nine
  go_enter Tryz.func4, Tryz.ntmps4
  go_upto_region 17 with (first
    | (go_at_call 14; (with_reducible refine (HV.out _ HL.out.bel).mono ?_); rintro e w1 ⟨rfl, hb⟩; have hl := HL.out.step hb; clear HL x0 x1 x2 x3 x4 x5 x6 x7 x8; have HL := Lib.hid hl; clear hl hb; obtain ⟨x0, x1, x2, x3, x4, x5, x6, x7, x8⟩ := (HL.out.blk (g := w.heap.size) (t := 27) (cs := #[.int .i64 k, .string num, .string den, .string text, .bool on, .int .i64 code, .int .i64 rows, .int .i64 cols, .slice A n c]) (by simp)).nine)
    | (go_at_call 15; (with_reducible refine (HC.out _ HL.out.bel).mono ?_); rintro e w1 ⟨rfl, hb⟩; have hl := HL.out.step hb; clear HL x0 x1 x2 x3 x4 x5 x6 x7 x8; have HL := Lib.hid hl; clear hl hb; obtain ⟨x0, x1, x2, x3, x4, x5, x6, x7, x8⟩ := (HL.out.blk (g := w.heap.size) (t := 27) (cs := #[.int .i64 k, .string num, .string den, .string text, .bool on, .int .i64 code, .int .i64 rows, .int .i64 cols, .slice A n c]) (by simp)).nine)
    | (go_at_call 16; (with_reducible refine (HS.out _ HL.out.bel).mono ?_); rintro e w1 ⟨rfl, hb⟩; have hl := HL.out.step hb; clear HL x0 x1 x2 x3 x4 x5 x6 x7 x8; have HL := Lib.hid hl; clear hl hb; obtain ⟨x0, x1, x2, x3, x4, x5, x6, x7, x8⟩ := (HL.out.blk (g := w.heap.size) (t := 27) (cs := #[.int .i64 k, .string num, .string den, .string text, .bool on, .int .i64 code, .int .i64 rows, .int .i64 cols, .slice A n c]) (by simp)).nine))
  clear x0 x1 x2 x3 x4 x5 x6 x7 x8
  have hl := HL.out.drew
  clear HL
  have HL := Lib.hid hl
  clear hl
  obtain ⟨x0, x1, x2, x3, x4, x5, x6, x7, x8⟩ := (HL.out.blk (g := w.heap.size) (t := 27) (cs := #[.int .i64 k, .string num, .string den, .string text, .bool on, .int .i64 code, .int .i64 rows, .int .i64 cols, .slice A n c]) (by simp)).nine
  go_region_held3 (fun w' => w'.cell? ⟨w.heap.size, 0, none⟩ = some (.int .i64 k) ∧ w'.cell? ⟨w.heap.size, 1, none⟩ = some (.string num) ∧ w'.cell? ⟨w.heap.size, 2, none⟩ = some (.string den) ∧ w'.cell? ⟨w.heap.size, 3, none⟩ = some (.string text) ∧ w'.cell? ⟨w.heap.size, 4, none⟩ = some (.bool on) ∧ w'.cell? ⟨w.heap.size, 5, none⟩ = some (.int .i64 code) ∧ w'.cell? ⟨w.heap.size, 6, none⟩ = some (.int .i64 rows) ∧ w'.cell? ⟨w.heap.size, 7, none⟩ = some (.int .i64 cols) ∧ w'.cell? ⟨w.heap.size, 8, none⟩ = some (.slice A n c)) (first | exact ⟨by assumption, by assumption, by assumption, by assumption, by assumption, by assumption, by assumption, by assumption, by assumption⟩ | go_keep) (first
    | (go_at_call 18; (with_reducible refine (HEN.out _ HL.out.bel).mono ?_); rintro e w2 ⟨rfl, hb⟩; have hl := HL.out.step hb; clear HL x0 x1 x2 x3 x4 x5 x6 x7 x8; have HL := Lib.hid hl; clear hl hb; obtain ⟨x0, x1, x2, x3, x4, x5, x6, x7, x8⟩ := (HL.out.blk (g := w.heap.size) (t := 27) (cs := #[.int .i64 k, .string num, .string den, .string text, .bool on, .int .i64 code, .int .i64 rows, .int .i64 cols, .slice A n c]) (by simp)).nine)
    | (go_at_call 19; (with_reducible refine (HSM.out _).mono ?_); rintro e w3 ⟨rfl, hb⟩; have hl := HL.out.step hb; clear HL x0 x1 x2 x3 x4 x5 x6 x7 x8; have HL := Lib.hid hl; clear hl hb; obtain ⟨x0, x1, x2, x3, x4, x5, x6, x7, x8⟩ := (HL.out.blk (g := w.heap.size) (t := 27) (cs := #[.int .i64 k, .string num, .string den, .string text, .bool on, .int .i64 code, .int .i64 rows, .int .i64 cols, .slice A n c]) (by simp)).nine))
  all_goals
    go_wp2_with fail
    go_ret
    exact ⟨rfl, HL.out.bel⟩
set_option maxRecDepth 100000 in
set_option maxHeartbeats 8000000 in
theorem back_t (num den text : ByteArray) (on : Bool) (code rows cols : Int) (A : Option Addr) (n c : Nat) (EV : Value) (w : World) (he : VEnv w) (hz : ((text.size : Int) == 32767) = false) (hlen : ¬ 9223372036854775807 < 1 + text.size)
    (hs : ∀ W, VEnv W → Calls Tryz.prog 16 #[.agg #[.int .i64 2, .string num, .string den, .string text, .bool on, .int .i64 code, .int .i64 rows, .int .i64 cols, .slice A n c]] W fun e w' => e = .returned (.tuple #[.string text, .int .i64 0]) ∧ Below W.heap.size W w')
    (hc : ∀ W, VEnv W → Calls Tryz.prog 15 #[.agg #[.int .i64 2, .string num, .string den, .string text, .bool on, .int .i64 code, .int .i64 rows, .int .i64 cols, .slice A n c]] W fun e w' => e = .returned (.int .i64 0) ∧ Below W.heap.size W w')
    (hen : ∀ W, VEnv W → Calls Tryz.prog 18 #[.string (⟨#[39]⟩ ++ text)] W fun e w' => e = .returned (EV) ∧ Below W.heap.size W w')
    (hsm : ∀ W, Calls Tryz.prog 19 #[EV, .agg #[.int .i64 2, .string num, .string den, .string text, .bool on, .int .i64 code, .int .i64 rows, .int .i64 cols, .slice A n c]] W fun e w' => e = .returned (.bool true) ∧ Below W.heap.size W w') :
    Calls Tryz.prog 4 #[.agg #[.int .i64 2, .string num, .string den, .string text, .bool on, .int .i64 code, .int .i64 rows, .int .i64 cols, .slice A n c]] w fun e w' => e = .returned (.bool true) ∧ Below w.heap.size w w' := by
  have HV := Lib.hid fun W (hW : Below w.heap.size w W) => values_any W (he.below hW)
  have HS := Lib.hid fun W (hW : Below w.heap.size w W) => hs W (he.below hW)
  have HC := Lib.hid fun W (hW : Below w.heap.size w W) => hc W (he.below hW)
  have HEN := Lib.hid fun W (hW : Below w.heap.size w W) => hen W (he.below hW)
  have HSM := Lib.hid hsm
  clear he hs hc
  have HL := Lib.hid ((Loc.start w).alloc' rfl 27 #[.int .i64 2, .string num, .string den, .string text, .bool on, .int .i64 code, .int .i64 rows, .int .i64 cols, .slice A n c])
  obtain ⟨x0, x1, x2, x3, x4, x5, x6, x7, x8⟩ := (HL.out.blk (g := w.heap.size) (t := 27) (cs := #[.int .i64 2, .string num, .string den, .string text, .bool on, .int .i64 code, .int .i64 rows, .int .i64 cols, .slice A n c]) (by simp)).nine
  go_enter Tryz.func4, Tryz.ntmps4
  go_upto_region 17 with (first
    | (go_at_call 14; (with_reducible refine (HV.out _ HL.out.bel).mono ?_); rintro e w1 ⟨rfl, hb⟩; have hl := HL.out.step hb; clear HL x0 x1 x2 x3 x4 x5 x6 x7 x8; have HL := Lib.hid hl; clear hl hb; obtain ⟨x0, x1, x2, x3, x4, x5, x6, x7, x8⟩ := (HL.out.blk (g := w.heap.size) (t := 27) (cs := #[.int .i64 2, .string num, .string den, .string text, .bool on, .int .i64 code, .int .i64 rows, .int .i64 cols, .slice A n c]) (by simp)).nine)
    | (go_at_call 15; (with_reducible refine (HC.out _ HL.out.bel).mono ?_); rintro e w1 ⟨rfl, hb⟩; have hl := HL.out.step hb; clear HL x0 x1 x2 x3 x4 x5 x6 x7 x8; have HL := Lib.hid hl; clear hl hb; obtain ⟨x0, x1, x2, x3, x4, x5, x6, x7, x8⟩ := (HL.out.blk (g := w.heap.size) (t := 27) (cs := #[.int .i64 2, .string num, .string den, .string text, .bool on, .int .i64 code, .int .i64 rows, .int .i64 cols, .slice A n c]) (by simp)).nine)
    | (go_at_call 16; (with_reducible refine (HS.out _ HL.out.bel).mono ?_); rintro e w1 ⟨rfl, hb⟩; have hl := HL.out.step hb; clear HL x0 x1 x2 x3 x4 x5 x6 x7 x8; have HL := Lib.hid hl; clear hl hb; obtain ⟨x0, x1, x2, x3, x4, x5, x6, x7, x8⟩ := (HL.out.blk (g := w.heap.size) (t := 27) (cs := #[.int .i64 2, .string num, .string den, .string text, .bool on, .int .i64 code, .int .i64 rows, .int .i64 cols, .slice A n c]) (by simp)).nine))
  clear x0 x1 x2 x3 x4 x5 x6 x7 x8
  have hl := HL.out.drew
  clear HL
  have HL := Lib.hid hl
  clear hl
  obtain ⟨x0, x1, x2, x3, x4, x5, x6, x7, x8⟩ := (HL.out.blk (g := w.heap.size) (t := 27) (cs := #[.int .i64 2, .string num, .string den, .string text, .bool on, .int .i64 code, .int .i64 rows, .int .i64 cols, .slice A n c]) (by simp)).nine
  go_region_held3 (fun w' => w'.cell? ⟨w.heap.size, 0, none⟩ = some (.int .i64 2) ∧ w'.cell? ⟨w.heap.size, 1, none⟩ = some (.string num) ∧ w'.cell? ⟨w.heap.size, 2, none⟩ = some (.string den) ∧ w'.cell? ⟨w.heap.size, 3, none⟩ = some (.string text) ∧ w'.cell? ⟨w.heap.size, 4, none⟩ = some (.bool on) ∧ w'.cell? ⟨w.heap.size, 5, none⟩ = some (.int .i64 code) ∧ w'.cell? ⟨w.heap.size, 6, none⟩ = some (.int .i64 rows) ∧ w'.cell? ⟨w.heap.size, 7, none⟩ = some (.int .i64 cols) ∧ w'.cell? ⟨w.heap.size, 8, none⟩ = some (.slice A n c)) (first | exact ⟨by assumption, by assumption, by assumption, by assumption, by assumption, by assumption, by assumption, by assumption, by assumption⟩ | go_keep) (first
    | (go_at_call 18; (with_reducible refine (HEN.out _ HL.out.bel).mono ?_); rintro e w2 ⟨rfl, hb⟩; have hl := HL.out.step hb; clear HL x0 x1 x2 x3 x4 x5 x6 x7 x8; have HL := Lib.hid hl; clear hl hb; obtain ⟨x0, x1, x2, x3, x4, x5, x6, x7, x8⟩ := (HL.out.blk (g := w.heap.size) (t := 27) (cs := #[.int .i64 2, .string num, .string den, .string text, .bool on, .int .i64 code, .int .i64 rows, .int .i64 cols, .slice A n c]) (by simp)).nine)
    | (go_at_call 19; (with_reducible refine (HSM.out _).mono ?_); rintro e w3 ⟨rfl, hb⟩; have hl := HL.out.step hb; clear HL x0 x1 x2 x3 x4 x5 x6 x7 x8; have HL := Lib.hid hl; clear hl hb; obtain ⟨x0, x1, x2, x3, x4, x5, x6, x7, x8⟩ := (HL.out.blk (g := w.heap.size) (t := 27) (cs := #[.int .i64 2, .string num, .string den, .string text, .bool on, .int .i64 code, .int .i64 rows, .int .i64 cols, .slice A n c]) (by simp)).nine))
  all_goals
    go_wp2_with fail
    go_ret
    exact ⟨rfl, HL.out.bel⟩
set_option maxRecDepth 100000 in
set_option maxHeartbeats 8000000 in
theorem back_tl (num den text : ByteArray) (on : Bool) (code rows cols : Int) (A : Option Addr) (n c : Nat) (w : World) (he : VEnv w) (hz : ((text.size : Int) == 32767) = true)
    (hs : ∀ W, VEnv W → Calls Tryz.prog 16 #[.agg #[.int .i64 2, .string num, .string den, .string text, .bool on, .int .i64 code, .int .i64 rows, .int .i64 cols, .slice A n c]] W fun e w' => e = .returned (.tuple #[.string text, .int .i64 0]) ∧ Below W.heap.size W w')
    (hc : ∀ W, VEnv W → Calls Tryz.prog 15 #[.agg #[.int .i64 2, .string num, .string den, .string text, .bool on, .int .i64 code, .int .i64 rows, .int .i64 cols, .slice A n c]] W fun e w' => e = .returned (.int .i64 0) ∧ Below W.heap.size W w') :
    Calls Tryz.prog 4 #[.agg #[.int .i64 2, .string num, .string den, .string text, .bool on, .int .i64 code, .int .i64 rows, .int .i64 cols, .slice A n c]] w fun e w' => e = .returned (.bool true) ∧ Below w.heap.size w w' := by
  have HV := Lib.hid fun W (hW : Below w.heap.size w W) => values_any W (he.below hW)
  have HS := Lib.hid fun W (hW : Below w.heap.size w W) => hs W (he.below hW)
  have HC := Lib.hid fun W (hW : Below w.heap.size w W) => hc W (he.below hW)
  clear he hs hc
  have HL := Lib.hid ((Loc.start w).alloc' rfl 27 #[.int .i64 2, .string num, .string den, .string text, .bool on, .int .i64 code, .int .i64 rows, .int .i64 cols, .slice A n c])
  obtain ⟨x0, x1, x2, x3, x4, x5, x6, x7, x8⟩ := (HL.out.blk (g := w.heap.size) (t := 27) (cs := #[.int .i64 2, .string num, .string den, .string text, .bool on, .int .i64 code, .int .i64 rows, .int .i64 cols, .slice A n c]) (by simp)).nine
  go_enter Tryz.func4, Tryz.ntmps4
  go_wp2_with (first
    | (go_at_call 14; (with_reducible refine (HV.out _ HL.out.bel).mono ?_); rintro e w1 ⟨rfl, hb⟩; have hl := HL.out.step hb; clear HL x0 x1 x2 x3 x4 x5 x6 x7 x8; have HL := Lib.hid hl; clear hl hb; obtain ⟨x0, x1, x2, x3, x4, x5, x6, x7, x8⟩ := (HL.out.blk (g := w.heap.size) (t := 27) (cs := #[.int .i64 2, .string num, .string den, .string text, .bool on, .int .i64 code, .int .i64 rows, .int .i64 cols, .slice A n c]) (by simp)).nine)
    | (go_at_call 15; (with_reducible refine (HC.out _ HL.out.bel).mono ?_); rintro e w1 ⟨rfl, hb⟩; have hl := HL.out.step hb; clear HL x0 x1 x2 x3 x4 x5 x6 x7 x8; have HL := Lib.hid hl; clear hl hb; obtain ⟨x0, x1, x2, x3, x4, x5, x6, x7, x8⟩ := (HL.out.blk (g := w.heap.size) (t := 27) (cs := #[.int .i64 2, .string num, .string den, .string text, .bool on, .int .i64 code, .int .i64 rows, .int .i64 cols, .slice A n c]) (by simp)).nine)
    | (go_at_call 16; (with_reducible refine (HS.out _ HL.out.bel).mono ?_); rintro e w1 ⟨rfl, hb⟩; have hl := HL.out.step hb; clear HL x0 x1 x2 x3 x4 x5 x6 x7 x8; have HL := Lib.hid hl; clear hl hb; obtain ⟨x0, x1, x2, x3, x4, x5, x6, x7, x8⟩ := (HL.out.blk (g := w.heap.size) (t := 27) (cs := #[.int .i64 2, .string num, .string den, .string text, .bool on, .int .i64 code, .int .i64 rows, .int .i64 cols, .slice A n c]) (by simp)).nine))
  go_ret
  exact ⟨rfl, HL.out.bel⟩
set_option maxRecDepth 100000 in
set_option maxHeartbeats 8000000 in
theorem back_n (num den text : ByteArray) (on : Bool) (code rows cols : Int) (A : Option Addr) (n c : Nat) (S : ByteArray) (EV : Value) (w : World) (he : VEnv w) (hz : ¬ (40 : Int) < (S.size : Int))
    (hs : ∀ W, VEnv W → Calls Tryz.prog 16 #[.agg #[.int .i64 1, .string num, .string den, .string text, .bool on, .int .i64 code, .int .i64 rows, .int .i64 cols, .slice A n c]] W fun e w' => e = .returned (.tuple #[.string S, .int .i64 0]) ∧ Below W.heap.size W w')
    (hc : ∀ W, VEnv W → Calls Tryz.prog 15 #[.agg #[.int .i64 1, .string num, .string den, .string text, .bool on, .int .i64 code, .int .i64 rows, .int .i64 cols, .slice A n c]] W fun e w' => e = .returned (.int .i64 0) ∧ Below W.heap.size W w')
    (hsh : ∀ W, VEnv W → Calls Tryz.prog 17 #[.agg #[.string num, .string den]] W fun e w' => e = .returned (.tuple #[.string S, .bool true, .int .i64 0]) ∧ Below W.heap.size W w')
    (hen : ∀ W, VEnv W → Calls Tryz.prog 18 #[.string S] W fun e w' => e = .returned (EV) ∧ Below W.heap.size W w')
    (hsm : ∀ W, Calls Tryz.prog 19 #[EV, .agg #[.int .i64 1, .string num, .string den, .string text, .bool on, .int .i64 code, .int .i64 rows, .int .i64 cols, .slice A n c]] W fun e w' => e = .returned (.bool true) ∧ Below W.heap.size W w') :
    Calls Tryz.prog 4 #[.agg #[.int .i64 1, .string num, .string den, .string text, .bool on, .int .i64 code, .int .i64 rows, .int .i64 cols, .slice A n c]] w fun e w' => e = .returned (.bool true) ∧ Below w.heap.size w w' := by
  have HV := Lib.hid fun W (hW : Below w.heap.size w W) => values_any W (he.below hW)
  have HS := Lib.hid fun W (hW : Below w.heap.size w W) => hs W (he.below hW)
  have HC := Lib.hid fun W (hW : Below w.heap.size w W) => hc W (he.below hW)
  have HEN := Lib.hid fun W (hW : Below w.heap.size w W) => hen W (he.below hW)
  have HSM := Lib.hid hsm
  have HSH := Lib.hid fun W (hW : Below w.heap.size w W) => hsh W (he.below hW)
  clear he hs hc
  have HL := Lib.hid ((Loc.start w).alloc' rfl 27 #[.int .i64 1, .string num, .string den, .string text, .bool on, .int .i64 code, .int .i64 rows, .int .i64 cols, .slice A n c])
  obtain ⟨x0, x1, x2, x3, x4, x5, x6, x7, x8⟩ := (HL.out.blk (g := w.heap.size) (t := 27) (cs := #[.int .i64 1, .string num, .string den, .string text, .bool on, .int .i64 code, .int .i64 rows, .int .i64 cols, .slice A n c]) (by simp)).nine
  go_enter Tryz.func4, Tryz.ntmps4
  go_upto_region 17 with (first
    | (go_at_call 14; (with_reducible refine (HV.out _ HL.out.bel).mono ?_); rintro e w1 ⟨rfl, hb⟩; have hl := HL.out.step hb; clear HL x0 x1 x2 x3 x4 x5 x6 x7 x8; have HL := Lib.hid hl; clear hl hb; obtain ⟨x0, x1, x2, x3, x4, x5, x6, x7, x8⟩ := (HL.out.blk (g := w.heap.size) (t := 27) (cs := #[.int .i64 1, .string num, .string den, .string text, .bool on, .int .i64 code, .int .i64 rows, .int .i64 cols, .slice A n c]) (by simp)).nine)
    | (go_at_call 15; (with_reducible refine (HC.out _ HL.out.bel).mono ?_); rintro e w1 ⟨rfl, hb⟩; have hl := HL.out.step hb; clear HL x0 x1 x2 x3 x4 x5 x6 x7 x8; have HL := Lib.hid hl; clear hl hb; obtain ⟨x0, x1, x2, x3, x4, x5, x6, x7, x8⟩ := (HL.out.blk (g := w.heap.size) (t := 27) (cs := #[.int .i64 1, .string num, .string den, .string text, .bool on, .int .i64 code, .int .i64 rows, .int .i64 cols, .slice A n c]) (by simp)).nine)
    | (go_at_call 16; (with_reducible refine (HS.out _ HL.out.bel).mono ?_); rintro e w1 ⟨rfl, hb⟩; have hl := HL.out.step hb; clear HL x0 x1 x2 x3 x4 x5 x6 x7 x8; have HL := Lib.hid hl; clear hl hb; obtain ⟨x0, x1, x2, x3, x4, x5, x6, x7, x8⟩ := (HL.out.blk (g := w.heap.size) (t := 27) (cs := #[.int .i64 1, .string num, .string den, .string text, .bool on, .int .i64 code, .int .i64 rows, .int .i64 cols, .slice A n c]) (by simp)).nine)
    | (go_at_call 17; (with_reducible refine (HSH.out _ HL.out.bel).mono ?_); rintro e w1 ⟨rfl, hb⟩; have hl := HL.out.step hb; clear HL x0 x1 x2 x3 x4 x5 x6 x7 x8; have HL := Lib.hid hl; clear hl hb; obtain ⟨x0, x1, x2, x3, x4, x5, x6, x7, x8⟩ := (HL.out.blk (g := w.heap.size) (t := 27) (cs := #[.int .i64 1, .string num, .string den, .string text, .bool on, .int .i64 code, .int .i64 rows, .int .i64 cols, .slice A n c]) (by simp)).nine))
  clear x0 x1 x2 x3 x4 x5 x6 x7 x8
  have hl := HL.out.drew
  clear HL
  have HL := Lib.hid hl
  clear hl
  obtain ⟨x0, x1, x2, x3, x4, x5, x6, x7, x8⟩ := (HL.out.blk (g := w.heap.size) (t := 27) (cs := #[.int .i64 1, .string num, .string den, .string text, .bool on, .int .i64 code, .int .i64 rows, .int .i64 cols, .slice A n c]) (by simp)).nine
  go_region_held3 (fun w' => w'.cell? ⟨w.heap.size, 0, none⟩ = some (.int .i64 1) ∧ w'.cell? ⟨w.heap.size, 1, none⟩ = some (.string num) ∧ w'.cell? ⟨w.heap.size, 2, none⟩ = some (.string den) ∧ w'.cell? ⟨w.heap.size, 3, none⟩ = some (.string text) ∧ w'.cell? ⟨w.heap.size, 4, none⟩ = some (.bool on) ∧ w'.cell? ⟨w.heap.size, 5, none⟩ = some (.int .i64 code) ∧ w'.cell? ⟨w.heap.size, 6, none⟩ = some (.int .i64 rows) ∧ w'.cell? ⟨w.heap.size, 7, none⟩ = some (.int .i64 cols) ∧ w'.cell? ⟨w.heap.size, 8, none⟩ = some (.slice A n c)) (first | exact ⟨by assumption, by assumption, by assumption, by assumption, by assumption, by assumption, by assumption, by assumption, by assumption⟩ | go_keep) (first
    | (go_at_call 18; (with_reducible refine (HEN.out _ HL.out.bel).mono ?_); rintro e w2 ⟨rfl, hb⟩; have hl := HL.out.step hb; clear HL x0 x1 x2 x3 x4 x5 x6 x7 x8; have HL := Lib.hid hl; clear hl hb; obtain ⟨x0, x1, x2, x3, x4, x5, x6, x7, x8⟩ := (HL.out.blk (g := w.heap.size) (t := 27) (cs := #[.int .i64 1, .string num, .string den, .string text, .bool on, .int .i64 code, .int .i64 rows, .int .i64 cols, .slice A n c]) (by simp)).nine)
    | (go_at_call 19; (with_reducible refine (HSM.out _).mono ?_); rintro e w3 ⟨rfl, hb⟩; have hl := HL.out.step hb; clear HL x0 x1 x2 x3 x4 x5 x6 x7 x8; have HL := Lib.hid hl; clear hl hb; obtain ⟨x0, x1, x2, x3, x4, x5, x6, x7, x8⟩ := (HL.out.blk (g := w.heap.size) (t := 27) (cs := #[.int .i64 1, .string num, .string den, .string text, .bool on, .int .i64 code, .int .i64 rows, .int .i64 cols, .slice A n c]) (by simp)).nine))
  all_goals
    go_wp2_with fail
    go_ret
    exact ⟨rfl, HL.out.bel⟩
set_option maxRecDepth 100000 in
set_option maxHeartbeats 8000000 in
theorem back_l (num den text : ByteArray) (on : Bool) (code rows cols : Int) (A : Option Addr) (n c : Nat) (S f1 f2 t : ByteArray) (ok : Bool) (w : World) (he : VEnv w) (hbad : ok = false ∨ ok = true ∧ (40 : Int) < (t.size : Int)) (hS : (S.toList == [35, 78, 85, 77, 33]) = false)
    (hs : ∀ W, VEnv W → Calls Tryz.prog 16 #[.agg #[.int .i64 1, .string num, .string den, .string text, .bool on, .int .i64 code, .int .i64 rows, .int .i64 cols, .slice A n c]] W fun e w' => e = .returned (.tuple #[.string S, .int .i64 0]) ∧ Below W.heap.size W w')
    (hc : ∀ W, VEnv W → Calls Tryz.prog 15 #[.agg #[.int .i64 1, .string num, .string den, .string text, .bool on, .int .i64 code, .int .i64 rows, .int .i64 cols, .slice A n c]] W fun e w' => e = .returned (.int .i64 0) ∧ Below W.heap.size W w')
    (hsh : ∀ W, VEnv W → Calls Tryz.prog 17 #[.agg #[.string num, .string den]] W fun e w' => e = .returned (.tuple #[.string t, .bool ok, .int .i64 0]) ∧ Below W.heap.size W w')
    (hen : ∀ W, VEnv W → Calls Tryz.prog 18 #[.string S] W fun e w' => e = .returned (.agg #[.int .i64 1, .string f1, .string f2, .string ⟨#[]⟩, .bool false, .int .i64 0, .int .i64 0, .int .i64 0, .slice none 0 0]) ∧ Below W.heap.size W w') :
    Calls Tryz.prog 4 #[.agg #[.int .i64 1, .string num, .string den, .string text, .bool on, .int .i64 code, .int .i64 rows, .int .i64 cols, .slice A n c]] w fun e w' => e = .returned (.bool true) ∧ Below w.heap.size w w' := by
  rcases hbad with rfl | ⟨rfl, hgt⟩
  all_goals
    have HV := Lib.hid fun W (hW : Below w.heap.size w W) => values_any W (he.below hW)
    have HS := Lib.hid fun W (hW : Below w.heap.size w W) => hs W (he.below hW)
    have HC := Lib.hid fun W (hW : Below w.heap.size w W) => hc W (he.below hW)
    have HEN := Lib.hid fun W (hW : Below w.heap.size w W) => hen W (he.below hW)
    have HSH := Lib.hid fun W (hW : Below w.heap.size w W) => hsh W (he.below hW)
    clear he hs hc
    have HL := Lib.hid ((Loc.start w).alloc' rfl 27 #[.int .i64 1, .string num, .string den, .string text, .bool on, .int .i64 code, .int .i64 rows, .int .i64 cols, .slice A n c])
    obtain ⟨x0, x1, x2, x3, x4, x5, x6, x7, x8⟩ := (HL.out.blk (g := w.heap.size) (t := 27) (cs := #[.int .i64 1, .string num, .string den, .string text, .bool on, .int .i64 code, .int .i64 rows, .int .i64 cols, .slice A n c]) (by simp)).nine
    go_enter Tryz.func4, Tryz.ntmps4
    go_wp2_with (first
      | (go_at_call 14; (with_reducible refine (HV.out _ HL.out.bel).mono ?_); rintro e w1 ⟨rfl, hb⟩; have hl := HL.out.step hb; clear HL x0 x1 x2 x3 x4 x5 x6 x7 x8; have HL := Lib.hid hl; clear hl hb; obtain ⟨x0, x1, x2, x3, x4, x5, x6, x7, x8⟩ := (HL.out.blk (g := w.heap.size) (t := 27) (cs := #[.int .i64 1, .string num, .string den, .string text, .bool on, .int .i64 code, .int .i64 rows, .int .i64 cols, .slice A n c]) (by simp)).nine)
      | (go_at_call 15; (with_reducible refine (HC.out _ HL.out.bel).mono ?_); rintro e w1 ⟨rfl, hb⟩; have hl := HL.out.step hb; clear HL x0 x1 x2 x3 x4 x5 x6 x7 x8; have HL := Lib.hid hl; clear hl hb; obtain ⟨x0, x1, x2, x3, x4, x5, x6, x7, x8⟩ := (HL.out.blk (g := w.heap.size) (t := 27) (cs := #[.int .i64 1, .string num, .string den, .string text, .bool on, .int .i64 code, .int .i64 rows, .int .i64 cols, .slice A n c]) (by simp)).nine)
      | (go_at_call 16; (with_reducible refine (HS.out _ HL.out.bel).mono ?_); rintro e w1 ⟨rfl, hb⟩; have hl := HL.out.step hb; clear HL x0 x1 x2 x3 x4 x5 x6 x7 x8; have HL := Lib.hid hl; clear hl hb; obtain ⟨x0, x1, x2, x3, x4, x5, x6, x7, x8⟩ := (HL.out.blk (g := w.heap.size) (t := 27) (cs := #[.int .i64 1, .string num, .string den, .string text, .bool on, .int .i64 code, .int .i64 rows, .int .i64 cols, .slice A n c]) (by simp)).nine)
      | (go_at_call 17; (with_reducible refine (HSH.out _ HL.out.bel).mono ?_); rintro e w1 ⟨rfl, hb⟩; have hl := HL.out.step hb; clear HL x0 x1 x2 x3 x4 x5 x6 x7 x8; have HL := Lib.hid hl; clear hl hb; obtain ⟨x0, x1, x2, x3, x4, x5, x6, x7, x8⟩ := (HL.out.blk (g := w.heap.size) (t := 27) (cs := #[.int .i64 1, .string num, .string den, .string text, .bool on, .int .i64 code, .int .i64 rows, .int .i64 cols, .slice A n c]) (by simp)).nine)
      | (go_at_call 18; (with_reducible refine (HEN.out _ HL.out.bel).mono ?_); rintro e w2 ⟨rfl, hb⟩; have hl := HL.out.step hb; clear HL x0 x1 x2 x3 x4 x5 x6 x7 x8; have HL := Lib.hid hl; clear hl hb; obtain ⟨x0, x1, x2, x3, x4, x5, x6, x7, x8⟩ := (HL.out.blk (g := w.heap.size) (t := 27) (cs := #[.int .i64 1, .string num, .string den, .string text, .bool on, .int .i64 code, .int .i64 rows, .int .i64 cols, .slice A n c]) (by simp)).nine))
    go_ret
    exact ⟨rfl, HL.out.bel.alloc HL.out.bel.size _⟩
set_option maxRecDepth 100000 in
set_option maxHeartbeats 8000000 in
theorem back_lf (num den text : ByteArray) (on : Bool) (code rows cols : Int) (A : Option Addr) (n c : Nat) (t : ByteArray) (ok : Bool) (w : World) (he : VEnv w) (hbad : ok = false ∨ ok = true ∧ (40 : Int) < (t.size : Int))
    (hs : ∀ W, VEnv W → Calls Tryz.prog 16 #[.agg #[.int .i64 1, .string num, .string den, .string text, .bool on, .int .i64 code, .int .i64 rows, .int .i64 cols, .slice A n c]] W fun e w' => e = .returned (.tuple #[.string ⟨#[35, 78, 85, 77, 33]⟩, .int .i64 0]) ∧ Below W.heap.size W w')
    (hc : ∀ W, VEnv W → Calls Tryz.prog 15 #[.agg #[.int .i64 1, .string num, .string den, .string text, .bool on, .int .i64 code, .int .i64 rows, .int .i64 cols, .slice A n c]] W fun e w' => e = .returned (.int .i64 0) ∧ Below W.heap.size W w')
    (hsh : ∀ W, VEnv W → Calls Tryz.prog 17 #[.agg #[.string num, .string den]] W fun e w' => e = .returned (.tuple #[.string t, .bool ok, .int .i64 0]) ∧ Below W.heap.size W w')
    (hen : ∀ W, VEnv W → Calls Tryz.prog 18 #[.string ⟨#[35, 78, 85, 77, 33]⟩] W fun e w' => e = .returned (.agg #[.int .i64 4, .string ⟨#[]⟩, .string ⟨#[]⟩, .string ⟨#[]⟩, .bool false, .int .i64 5, .int .i64 0, .int .i64 0, .slice none 0 0]) ∧ Below W.heap.size W w') :
    Calls Tryz.prog 4 #[.agg #[.int .i64 1, .string num, .string den, .string text, .bool on, .int .i64 code, .int .i64 rows, .int .i64 cols, .slice A n c]] w fun e w' => e = .returned (.bool true) ∧ Below w.heap.size w w' := by
  rcases hbad with rfl | ⟨rfl, hgt⟩
  all_goals
    have HV := Lib.hid fun W (hW : Below w.heap.size w W) => values_any W (he.below hW)
    have HS := Lib.hid fun W (hW : Below w.heap.size w W) => hs W (he.below hW)
    have HC := Lib.hid fun W (hW : Below w.heap.size w W) => hc W (he.below hW)
    have HEN := Lib.hid fun W (hW : Below w.heap.size w W) => hen W (he.below hW)
    have HSH := Lib.hid fun W (hW : Below w.heap.size w W) => hsh W (he.below hW)
    clear he hs hc
    have HL := Lib.hid ((Loc.start w).alloc' rfl 27 #[.int .i64 1, .string num, .string den, .string text, .bool on, .int .i64 code, .int .i64 rows, .int .i64 cols, .slice A n c])
    obtain ⟨x0, x1, x2, x3, x4, x5, x6, x7, x8⟩ := (HL.out.blk (g := w.heap.size) (t := 27) (cs := #[.int .i64 1, .string num, .string den, .string text, .bool on, .int .i64 code, .int .i64 rows, .int .i64 cols, .slice A n c]) (by simp)).nine
    go_enter Tryz.func4, Tryz.ntmps4
    go_wp2_with (first
      | (go_at_call 14; (with_reducible refine (HV.out _ HL.out.bel).mono ?_); rintro e w1 ⟨rfl, hb⟩; have hl := HL.out.step hb; clear HL x0 x1 x2 x3 x4 x5 x6 x7 x8; have HL := Lib.hid hl; clear hl hb; obtain ⟨x0, x1, x2, x3, x4, x5, x6, x7, x8⟩ := (HL.out.blk (g := w.heap.size) (t := 27) (cs := #[.int .i64 1, .string num, .string den, .string text, .bool on, .int .i64 code, .int .i64 rows, .int .i64 cols, .slice A n c]) (by simp)).nine)
      | (go_at_call 15; (with_reducible refine (HC.out _ HL.out.bel).mono ?_); rintro e w1 ⟨rfl, hb⟩; have hl := HL.out.step hb; clear HL x0 x1 x2 x3 x4 x5 x6 x7 x8; have HL := Lib.hid hl; clear hl hb; obtain ⟨x0, x1, x2, x3, x4, x5, x6, x7, x8⟩ := (HL.out.blk (g := w.heap.size) (t := 27) (cs := #[.int .i64 1, .string num, .string den, .string text, .bool on, .int .i64 code, .int .i64 rows, .int .i64 cols, .slice A n c]) (by simp)).nine)
      | (go_at_call 16; (with_reducible refine (HS.out _ HL.out.bel).mono ?_); rintro e w1 ⟨rfl, hb⟩; have hl := HL.out.step hb; clear HL x0 x1 x2 x3 x4 x5 x6 x7 x8; have HL := Lib.hid hl; clear hl hb; obtain ⟨x0, x1, x2, x3, x4, x5, x6, x7, x8⟩ := (HL.out.blk (g := w.heap.size) (t := 27) (cs := #[.int .i64 1, .string num, .string den, .string text, .bool on, .int .i64 code, .int .i64 rows, .int .i64 cols, .slice A n c]) (by simp)).nine)
      | (go_at_call 17; (with_reducible refine (HSH.out _ HL.out.bel).mono ?_); rintro e w1 ⟨rfl, hb⟩; have hl := HL.out.step hb; clear HL x0 x1 x2 x3 x4 x5 x6 x7 x8; have HL := Lib.hid hl; clear hl hb; obtain ⟨x0, x1, x2, x3, x4, x5, x6, x7, x8⟩ := (HL.out.blk (g := w.heap.size) (t := 27) (cs := #[.int .i64 1, .string num, .string den, .string text, .bool on, .int .i64 code, .int .i64 rows, .int .i64 cols, .slice A n c]) (by simp)).nine)
      | (go_at_call 18; (with_reducible refine (HEN.out _ HL.out.bel).mono ?_); rintro e w2 ⟨rfl, hb⟩; have hl := HL.out.step hb; clear HL x0 x1 x2 x3 x4 x5 x6 x7 x8; have HL := Lib.hid hl; clear hl hb; obtain ⟨x0, x1, x2, x3, x4, x5, x6, x7, x8⟩ := (HL.out.blk (g := w.heap.size) (t := 27) (cs := #[.int .i64 1, .string num, .string den, .string text, .bool on, .int .i64 code, .int .i64 rows, .int .i64 cols, .slice A n c]) (by simp)).nine))
    go_ret
    exact ⟨rfl, HL.out.bel.alloc HL.out.bel.size _⟩
end Go.Proofs.YtmmlcponmdalmaaGreatDoor

namespace Go.Proofs.YtmmlcponmdalmaaGreatDoor
open Go.RowKit

theorem frSame_eq {a b c d : ByteArray} (h : frSame a b c d = true) : a = c ∧ b = d := by
  unfold frSame at h
  simp only [Bool.and_eq_true, beq_iff_eq] at h
  exact ⟨ba_ext (by have := h.1; rwa [Lib.toList_data, Lib.toList_data] at this), ba_ext (by have := h.2; rwa [Lib.toList_data, Lib.toList_data] at this)⟩
theorem empty_eq {a : ByteArray} (h : a.toList.isEmpty = true) : a = ⟨#[]⟩ := by
  rw [Lib.toList_data, List.isEmpty_iff] at h
  exact ba_ext h
/-- The fields without meaning are zero. -/
theorem zB_all {v : Vl} (h : v.zB = true) : (v.k = 1 ∨ v.num = ⟨#[]⟩ ∧ v.den = ⟨#[]⟩) ∧ (v.k = 2 ∨ v.text = ⟨#[]⟩) ∧ (v.k = 3 ∨ v.on = false) ∧ (v.k = 4 ∨ v.code = 0) ∧ (v.k = 5 ∨ v.rows = 0 ∧ v.cols = 0 ∧ v.n = 0) := by
  unfold Vl.zB at h
  simp only [Bool.and_eq_true, Bool.or_eq_true, beq_iff_eq, Bool.not_eq_true'] at h
  obtain ⟨⟨⟨⟨h1, h2⟩, h3⟩, h4⟩, h5⟩ := h
  exact ⟨h1.imp id frSame_eq, h2.imp id empty_eq, h3, h4, h5.imp id fun h => ⟨h.1.1, h.1.2, h.2⟩⟩
theorem Numeric.ne_fault {T f1 f2 : ByteArray} (h : Numeric T f1 f2) : (T.toList == [35, 78, 85, 77, 33]) = false :=
  h.head.ne _ (by rintro c t e; cases e; exact ⟨by decide, by unfold Nt.isD; decide⟩)
theorem txtE_len {t : ByteArray} (h : txtE t = 0) : t.size ≤ 32767 := by
  unfold txtE at h
  by_cases hh : 32767 < t.size
  · rw [if_pos hh] at h
    cases h
  · omega

theorem back_w (v : Vl) (w : World) (he : VEnv w) (sz : v.sz) (hi : v.its w) :
    Calls Tryz.prog 4 #[v.v] w fun e w' => e = .returned (.bool true) ∧ Below w.heap.size w w' := by
  by_cases hok : v.ok
  case neg =>
    obtain ⟨k, num, den, text, on, code, rows, cols, A, n, c⟩ := v
    refine back_bad k num den text on code rows cols A n c w he fun W hW => (check_all ⟨k, num, den, text, on, code, rows, cols, A, n, c⟩ W (he.below hW) (hi.below hW) sz).mono ?_
    rintro e w' ⟨cc, h1, h2, h3⟩
    refine ⟨cc, h1, fun h0 => ?_, h3⟩
    by_cases hk : k = 5
    · exact hk
    · exact absurd (h2 hk h0) hok
  have hc := fun W (hW : VEnv W) => check_t' v W hW hok sz.s1 sz.s2 sz.s3
  have hsw := fun (S : ByteArray) W (hW : VEnv W) hs => show_v v S W hW hok sz hs
  obtain ⟨k, num, den, text, on, code, rows, cols, A, n, c⟩ := v
  obtain ⟨k0, k4, hz, o1, o2, o4⟩ := hok
  obtain ⟨z1, z2, z3, z4, z5⟩ := zB_all hz
  dsimp only at k0 k4 o1 o2 o4 z1 z2 z3 z4 z5
  obtain ⟨rfl, rfl, rfl⟩ : rows = 0 ∧ cols = 0 ∧ n = 0 := z5.resolve_left (by omega)
  clear hz z5 hi sz
  rcases (show k = 0 ∨ k = 1 ∨ k = 2 ∨ k = 3 ∨ k = 4 by omega) with rfl | rfl | rfl | rfl | rfl
  · obtain ⟨rfl, rfl⟩ := z1.resolve_left (by decide)
    obtain rfl := z2.resolve_left (by decide)
    obtain rfl := z3.resolve_left (by decide)
    obtain rfl := z4.resolve_left (by decide)
    exact back_o 0 ⟨#[]⟩ ⟨#[]⟩ ⟨#[]⟩ false 0 0 0 A 0 c ⟨#[]⟩ _ w he (by decide) (by decide) (by decide) (fun W hW => hsw ⟨#[]⟩ W hW fun W' hW' => shown_e ⟨#[]⟩ ⟨#[]⟩ ⟨#[]⟩ false 0 0 0 A 0 c W' hW') hc (fun W hW => enter_e W hW) fun W => same_t 0 ⟨#[]⟩ ⟨#[]⟩ ⟨#[]⟩ false 0 0 0 none A 0 c W
  · obtain rfl := z2.resolve_left (by decide)
    obtain rfl := z3.resolve_left (by decide)
    obtain rfl := z4.resolve_left (by decide)
    obtain ⟨m, nn, d, hr⟩ := o1 rfl
    obtain ⟨T, hT, hd⟩ := vdecimal_any num den m nn d hr
    have hs := fun W (hW : VEnv W) => hsw T W hW fun W' hW' => shown_n num den ⟨#[]⟩ false 0 0 0 A 0 c T hd W' hW'
    rcases hT with ⟨h1, h2⟩ | ⟨hbig, hT⟩
    · have hn := h1.numeric h2 hr
      exact back_n num den ⟨#[]⟩ false 0 0 0 A 0 c T _ w he (by omega) hs hc (fun W hW => short_some num den T m nn d W hW hr h1) (fun W hW => enter_n T num den hn W hW) fun W => same_t 1 num den ⟨#[]⟩ false 0 0 0 none A 0 c W
    · obtain ⟨t, ok, hsh, hbad⟩ : ∃ (t : ByteArray) (ok : Bool), (∀ W, VEnv W → Calls Tryz.prog 17 #[.agg #[.string num, .string den]] W fun e w' => e = .returned (.tuple #[.string t, .bool ok, .int .i64 0]) ∧ Below W.heap.size W w') ∧ (ok = false ∨ ok = true ∧ (40 : Int) < (t.size : Int)) := by
        by_cases hx : ∃ t, Sh m nn d t
        · obtain ⟨t, ht⟩ := hx
          exact ⟨t, true, fun W he => short_some num den t m nn d W he hr ht, .inr ⟨rfl, by have := hbig t ht; omega⟩⟩
        · exact ⟨⟨#[]⟩, false, fun W he => short_none num den m nn d W he hr fun t ht => hx ⟨t, ht⟩, .inl rfl⟩
      rcases hT with rfl | ⟨f1, f2, hn⟩
      · exact back_lf num den ⟨#[]⟩ false 0 0 0 A 0 c t ok w he hbad hs hc hsh fun W hW => enter_fault 5 (by decide) (by decide) W hW
      · exact back_l num den ⟨#[]⟩ false 0 0 0 A 0 c T f1 f2 t ok w he hbad hn.ne_fault hs hc hsh fun W hW => enter_n T f1 f2 hn W hW
  · obtain ⟨rfl, rfl⟩ := z1.resolve_left (by decide)
    obtain rfl := z3.resolve_left (by decide)
    obtain rfl := z4.resolve_left (by decide)
    have ht := o2 rfl
    have hl := txtE_len ht
    have hs := fun W (hW : VEnv W) => hsw text W hW fun W' hW' => shown_t ⟨#[]⟩ ⟨#[]⟩ text false 0 0 0 A 0 c W' hW'
    by_cases hz : text.size = 32767
    · exact back_tl ⟨#[]⟩ ⟨#[]⟩ text false 0 0 0 A 0 c w he (by rw [hz]; rfl) hs hc
    · exact back_t ⟨#[]⟩ ⟨#[]⟩ text false 0 0 0 A 0 c _ w he (by rw [beq_eq_false_iff_ne]; omega) (by omega) hs hc (fun W hW => enter_q text ht (by omega) W hW) fun W => same_t 2 ⟨#[]⟩ ⟨#[]⟩ text false 0 0 0 none A 0 c W
  · obtain ⟨rfl, rfl⟩ := z1.resolve_left (by decide)
    obtain rfl := z2.resolve_left (by decide)
    obtain rfl := z4.resolve_left (by decide)
    exact back_o 3 ⟨#[]⟩ ⟨#[]⟩ ⟨#[]⟩ on 0 0 0 A 0 c _ _ w he (by decide) (by decide) (by decide) (fun W hW => hsw _ W hW fun W' hW' => shown_b ⟨#[]⟩ ⟨#[]⟩ ⟨#[]⟩ on 0 0 0 A 0 c W' hW') hc (fun W hW => enter_b on W hW) fun W => same_t 3 ⟨#[]⟩ ⟨#[]⟩ ⟨#[]⟩ on 0 0 0 none A 0 c W
  · obtain ⟨rfl, rfl⟩ := z1.resolve_left (by decide)
    obtain rfl := z2.resolve_left (by decide)
    obtain rfl := z3.resolve_left (by decide)
    obtain ⟨c1, c8⟩ := o4 rfl
    obtain ⟨j, rfl⟩ : ∃ j : Nat, code = (j : Int) := ⟨code.toNat, by omega⟩
    have j1 : 1 ≤ j := by omega
    have j8 : j ≤ 8 := by omega
    exact back_o 4 ⟨#[]⟩ ⟨#[]⟩ ⟨#[]⟩ false (j : Int) 0 0 A 0 c _ _ w he (by decide) (by decide) (by decide) (fun W hW => hsw _ W hW fun W' hW' => shown_f j ⟨#[]⟩ ⟨#[]⟩ ⟨#[]⟩ false 0 0 A 0 c j1 j8 W' hW') hc (fun W hW => enter_fault j j1 j8 W hW) fun W => same_t 4 ⟨#[]⟩ ⟨#[]⟩ ⟨#[]⟩ false (j : Int) 0 0 none A 0 c W
end Go.Proofs.YtmmlcponmdalmaaGreatDoor
