/-
  Walks: the reference's Solve.
-/
import Derived.Test.YtlnmmkgeahlohaaDoorG
namespace Go.Proofs.YtlnmmkgeahlohaaDoor
set_option linter.unusedVariables false
set_option linter.unusedSimpArgs false
open Go.RowKit

theorem atJ_first {l : List Ln} (hg : Good l) {k s j : Nat} (hk : k < l.length) (h : atJ l k s j = rN l k) (hm : ∀ i, i < j → atJ l k s i ≠ rN l k) : j < stp l k := by
  rcases Nat.lt_or_ge j (stp l k) with h1 | h1
  · exact h1
  · rw [atJ_period] at h
    exact absurd h (hm _ (Nat.lt_of_lt_of_le (Nat.mod_lt _ (stp_pos hg k hk)) h1))

end Go.Proofs.YtlnmmkgeahlohaaDoor
