-- Cut by a program of ours to what this claim names.
-- PRINTED WORDS (module Derived/Print/Sized.lean): go-gate-2's, for the rows of laws over slices: an AI agent of Go's test side, Tue Nov 17 2026; no person has read it. Lean checks it.
import Derived.SizedLaws
import Derived.ChangeSlices
namespace Go.Proofs.YtkflgnhcfhmkdaaDoorW.PrintWords
open Go.ChangeShapes Go.WideShapes
end Go.Proofs.YtkflgnhcfhmkdaaDoorW.PrintWords
