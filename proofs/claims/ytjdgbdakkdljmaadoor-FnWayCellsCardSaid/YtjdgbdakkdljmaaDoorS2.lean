/-
  The laws' helpers for slices of slides: copies, comparison, marks.
-/
import Derived.Test.YtjdgbdakkdljmaaDoorS
import Derived.Test.YtjdgbdakkdljmaaDoorM
set_option linter.unusedVariables false
namespace Go.Proofs.YtjdgbdakkdljmaaDoor
open Go Go.RowKit Go.Park

theorem Tryd.infoSlide : (Tryd.prog.info? 40).map (fun i => (i.zero, i.size, i.bytes)) = some (some (.agg #[.int .i64 0, .int .i64 0]), 2, 16) := by kernel_rfl









end Go.Proofs.YtjdgbdakkdljmaaDoor
