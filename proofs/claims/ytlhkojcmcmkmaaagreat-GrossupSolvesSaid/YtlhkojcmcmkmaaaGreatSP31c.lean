/- Conditions: as stated. -/
import Derived.Test.YtlhkojcmcmkmaaaGreatSP31b
namespace Go.Proofs.YtlhkojcmcmkmaaaGreat
open Go.Proofs.Tryz
open Go.RowKit Go.Sort Go.Shelf
