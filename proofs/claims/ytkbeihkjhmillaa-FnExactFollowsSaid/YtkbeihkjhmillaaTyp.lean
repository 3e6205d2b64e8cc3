/-
  What the table says of the slice types.
-/
import Derived.Test.YtkbeihkjhmillaaRows
import Derived.Test.YtkbeihkjhmillaaOwn
namespace Go.Proofs.Ytkbeihkjhmillaa
open Go.RowKit
open Rep (Rd Own sz)

abbrev Eqn := List Int × Int
abbrev Sys := Int × Int × List Eqn
abbrev RelT := Int × List (List Int)
abbrev OpT := Int × List Int
abbrev Tmpl := Int × List RelT
abbrev Inst := Int × List OpT

theorem own0_int (w : World) : Own [] w (Value.cells (.int .i64 0)).toList (0 : Int) := ⟨rfl, rfl, ⟨by decide, by decide⟩⟩
theorem own0_bool (w : World) : Own [] w (Value.cells (.bool false)).toList false := ⟨rfl, rfl⟩
theorem own0_list {α : Type} [Rep α] (w : World) : Own [] w (Value.cells (.slice none 0 0)).toList ([] : List α) := ⟨_, rfl, .inl ⟨rfl, rfl, none, 0, rfl, Nat.zero_le _⟩⟩
theorem own0_eqn (w : World) : Own [] w (Value.cells (.agg #[.slice none 0 0, .int .i64 0])).toList (([], 0) : Eqn) :=
  ⟨[], [], [.slice none 0 0], [.int .i64 0], rfl, rfl, ⟨_, rfl, .inl ⟨rfl, rfl, none, 0, rfl, Nat.zero_le _⟩⟩, ⟨rfl, rfl, ⟨by decide, by decide⟩⟩⟩
theorem own0_op (w : World) : Own [] w (Value.cells (.agg #[.int .i64 0, .slice none 0 0])).toList ((0, []) : OpT) :=
  ⟨[], [], [.int .i64 0], [.slice none 0 0], rfl, rfl, ⟨rfl, rfl, ⟨by decide, by decide⟩⟩, ⟨_, rfl, .inl ⟨rfl, rfl, none, 0, rfl, Nat.zero_le _⟩⟩⟩
theorem own0_rel (w : World) : Own [] w (Value.cells (.agg #[.int .i64 0, .slice none 0 0])).toList ((0, []) : RelT) :=
  ⟨[], [], [.int .i64 0], [.slice none 0 0], rfl, rfl, ⟨rfl, rfl, ⟨by decide, by decide⟩⟩, ⟨_, rfl, .inl ⟨rfl, rfl, none, 0, rfl, Nat.zero_le _⟩⟩⟩
theorem own0_i3 (w : World) : Own [] w (Value.cells (.agg #[.int .i64 0, .int .i64 0, .int .i64 0])).toList ((0, 0, 0) : Int × Int × Int) :=
  ⟨[], [], [.int .i64 0], [.int .i64 0, .int .i64 0], rfl, rfl, ⟨rfl, rfl, ⟨by decide, by decide⟩⟩, [], [], [.int .i64 0], [.int .i64 0], rfl, rfl, ⟨rfl, rfl, ⟨by decide, by decide⟩⟩, ⟨rfl, rfl, ⟨by decide, by decide⟩⟩⟩
theorem own0_i4 (w : World) : Own [] w (Value.cells (.agg #[.int .i64 0, .int .i64 0, .int .i64 0, .int .i64 0])).toList ((0, 0, 0, 0) : Int × Int × Int × Int) :=
  ⟨[], [], [.int .i64 0], [.int .i64 0, .int .i64 0, .int .i64 0], rfl, rfl, ⟨rfl, rfl, ⟨by decide, by decide⟩⟩, own0_i3 w⟩

theorem E_ints : ElemT Try.prog 25 2 (Int) (.int .i64 0) 8 := ElemT.mk' Try.underlying25 (by kernel_rfl) rfl (by decide) (by decide)
theorem E_lists : ElemT Try.prog 56 25 (List Int) (.slice none 0 0) 24 := ElemT.mk' Try.underlying56 (by kernel_rfl) rfl (by decide) (by decide)
theorem E_eqns : ElemT Try.prog 29 48 (Eqn) (.agg #[.slice none 0 0, .int .i64 0]) 32 := ElemT.mk' Try.underlying29 (by kernel_rfl) rfl (by decide) (by decide)
theorem E_rows : ElemT Try.prog 96 90 ((List Int × List Int)) (.agg #[.slice none 0 0, .slice none 0 0]) 48 := ElemT.mk' Try.underlying96 (by kernel_rfl) rfl (by decide) (by decide)
theorem E_srows : ElemT Try.prog 101 84 ((List Int × Int × List Int)) (.agg #[.slice none 0 0, .int .i64 0, .slice none 0 0]) 56 := ElemT.mk' Try.underlying101 (by kernel_rfl) rfl (by decide) (by decide)
end Go.Proofs.Ytkbeihkjhmillaa
