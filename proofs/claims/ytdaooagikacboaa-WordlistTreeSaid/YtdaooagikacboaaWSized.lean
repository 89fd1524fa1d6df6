-- cut down by this session's prune2.py to what the claims name; Lean checks it
-- PRINTED WORDS (module Derived/Print/Sized.lean): go-gate-2's, for the rows of laws over slices: an AI agent of Go's test side, Tue Nov 17 2026; no person has read it. Lean checks it.
import Derived.SizedLaws
import Derived.ChangeSlices
namespace Go.Proofs.YtdaooagikacboaaW.PrintWords
open Go.ChangeShapes Go.WideShapes
end Go.Proofs.YtdaooagikacboaaW.PrintWords
