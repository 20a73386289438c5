/-
  Walks: copies of a term, and whether two are the same.
-/
import Derived.Test.YtlnmmkgeahlohaaDoorQ
import Derived.Deep.RegionWith
namespace Go.Proofs.YtlnmmkgeahlohaaDoor
set_option linter.unusedVariables false
set_option linter.unusedSimpArgs false
open Go.RowKit

theorem take_gi {l : List Int} {k : Nat} (h : k < l.length) : l.take (k + 1) = l.take k ++ [gi l k] := by
  rw [List.take_add_one]; simp [gi, h]

end Go.Proofs.YtlnmmkgeahlohaaDoor
