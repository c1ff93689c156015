/- What the world's shape gives: the library's variable holds a number. -/
import Derived.Test.YtlgohkdckdnmhaaDoorKyA
import Derived.Shelf.Vars
namespace Go.Proofs.YtlgohkdckdnmhaaDoor
theorem mx_of {W : World} (h : W.ShapedOpen Tryd.prog) : Mx W :=
  cell_of_shapedOpen_int (g := Tryd.lays155_ren.g 1) (t := 3) (zero := #[.int .i64 0]) (k := .i64) h (by decide) (by kernel_rfl) rfl (by kernel_rfl) (by kernel_rfl) Tryd.underlying3
end Go.Proofs.YtlgohkdckdnmhaaDoor
