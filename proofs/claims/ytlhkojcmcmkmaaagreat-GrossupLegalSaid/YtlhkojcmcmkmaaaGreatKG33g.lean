/- Conditions: as stated. -/
import Derived.Test.YtlhkojcmcmkmaaaGreatKG33f
namespace Go.Proofs.YtlhkojcmcmkmaaaGreat
open Go.Proofs.Tryz
open Go.RowKit
