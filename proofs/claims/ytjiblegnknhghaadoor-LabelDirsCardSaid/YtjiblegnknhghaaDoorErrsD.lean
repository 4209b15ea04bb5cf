/- The two errors' cells, out of the row's condition; ParseInt's contracts over them. -/
import Derived.Test.YtjiblegnknhghaaDoorOpenD
import Derived.Test.YtjiblegnknhghaaDoorParseD
namespace Go.Proofs.YtjiblegnknhghaaDoor
open Go Go.ChangeShapes Go.WideShapes Go.ChangeAt Go.RowKit

theorem star : "*" ++ "errors.errorString" = "*errors.errorString" := by decide
theorem rowErr (u : TypeId) (h : Tryd.prog.typeName? 3 u = some "*errors.errorString") : u = 124 :=
  typeName_ptr_named (nm := "errors.errorString") (by rw [star]; kernel_rfl) (by kernel_rfl) (by decide) u (by rw [star]; exact h)

theorem errs_of {a b c : String × DataW Unit} {r : List (String × DataW Unit)} {W : World} (h : laidMet Tryd.prog (a :: b :: c :: ("strconv.ErrRange", Rows.laid_strconv_ErrRange) :: ("strconv.ErrSyntax", Rows.laid_strconv_ErrSyntax) :: r) W) : ErrOk W := by
  have h4 := h.tail.tail.tail
  have h5 := h4.tail
  obtain ⟨a0, s0, hv0, _⟩ := laid_sentinel (g := 2) (ti := 60) (tp := 124) (te := 126) (ts := 9) h4 (by kernel_rfl) (by kernel_rfl) Tryd.underlying60 rowErr Tryd.underlying124 Tryd.underlying126 rfl rfl Tryd.underlying9 (by kernel_rfl) (by kernel_rfl)
  obtain ⟨a1, s1, hv1, _⟩ := laid_sentinel (g := 1) (ti := 60) (tp := 124) (te := 126) (ts := 9) h5 (by kernel_rfl) (by kernel_rfl) Tryd.underlying60 rowErr Tryd.underlying124 Tryd.underlying126 rfl rfl Tryd.underlying9 (by kernel_rfl) (by kernel_rfl)
  exact ⟨⟨_, by simpa using World.var?_cell (by kernel_rfl) hv1 0, .inr ⟨_, _, rfl⟩⟩, ⟨_, by simpa using World.var?_cell (by kernel_rfl) hv0 0, .inr ⟨_, _, rfl⟩⟩⟩
end Go.Proofs.YtjiblegnknhghaaDoor
