/- Two references held against each other. -/
import Derived.Test.YtjgojbkmeggmhaaDoorCrB
import Derived.Laws.StructEq
namespace Go.Proofs.YtjgojbkmeggmhaaDoor
open Go.RowKit
def Ref.same (a b : Ref) : Bool := a.sheet.toList == b.sheet.toList && a.kind == b.kind && a.row == b.row && a.col == b.col && a.row2 == b.row2 && a.col2 == b.col2 && a.ar == b.ar && a.ac == b.ac && a.ar2 == b.ar2 && a.ac2 == b.ac2

theorem Ref.same_iff (a b : Ref) : a.same b = true ↔ a = b := by
  unfold Ref.same
  simp only [Bool.and_eq_true, beq_iff_eq, Lib.toList_data]
  constructor
  · rintro ⟨⟨⟨⟨⟨⟨⟨⟨⟨h0, h1⟩, h2⟩, h3⟩, h4⟩, h5⟩, h6⟩, h7⟩, h8⟩, h9⟩
    cases a; cases b
    simp only [Ref.mk.injEq]
    refine ⟨?_, h1, h2, h3, h4, h5, h6, h7, h8, h9⟩
    apply ByteArray.ext
    exact Array.toList_inj.1 h0
  · rintro rfl; simp

theorem ref_stood : Tryd.prog.stoodInHeld 40 = false := by kernel_rfl
theorem ref_fields : Tryd.prog.underlying 40 = some (.struct (Tryd.prog.fieldsOf 40)) := by kernel_rfl
theorem eq_s (W : World) (a b : ByteArray) : (Op.equalIn 9999 9 (.string a) (.string b)).run Tryd.prog W = .ok (a.toList == b.toList) W := run_equalIn_string W 9998 _ a b Tryd.underlying9
theorem eq_i (W : World) (a b : Int) : (Op.equalIn 9999 3 (.int .i64 a) (.int .i64 b)).run Tryd.prog W = .ok (a == b) W := run_equalIn_int W 9998 _ _ _ a b Tryd.underlying3
theorem eq_b (W : World) (a b : Bool) : (Op.equalIn 9999 4 (.bool a) (.bool b)).run Tryd.prog W = .ok (a == b) W := run_equalIn_bool W 9998 _ a b Tryd.underlying4

theorem ref_equalIn (a b : Ref) (W : World) : (Op.equalIn 10000 40 a.v b.v).run Tryd.prog W = .ok (a.same b) W := by
  rw [run_equalIn_struct W 9999 _ _ _ ref_fields ref_stood]
  simp only [Program.fieldsOf, Tryd.underlying40]
  simp only [Op.eqFields, Sem.run_bind, Sem.run_ite, part]
  simp [eq_s, eq_i, eq_b]
  unfold Ref.same
  repeat' split
  all_goals simp [*]

theorem ref_neq (a b : Ref) (W : World) : (binOp .neq 40 a.v b.v).run Tryd.prog W = .ok (.bool (!a.same b)) W := by
  rw [run_neq_struct, ref_equalIn]; rfl
theorem ref_eql (a b : Ref) (W : World) : (binOp .eql 40 a.v b.v).run Tryd.prog W = .ok (.bool (a.same b)) W := by
  rw [run_eql_struct, ref_equalIn]; rfl
end Go.Proofs.YtjgojbkmeggmhaaDoor
