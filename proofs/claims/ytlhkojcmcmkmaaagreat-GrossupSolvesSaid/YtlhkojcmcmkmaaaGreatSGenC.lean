/- Conditions: as stated. -/
import Derived.Test.YtlhkojcmcmkmaaaGreatSCmp0
import Derived.Test.YtlhkojcmcmkmaaaGreatSGenP2
namespace Go.Proofs.YtlhkojcmcmkmaaaGreat
open Go.Proofs.Tryz
open Go.RowKit
section
variable {α:Type}{enc:α->List Value}{k:Nat}{w w':World}{base base' g:Nat}{A:Option Addr}{xs:List α}
end
section
variable {w wx wy:World}{b g M M':Nat}{cs:Array Value}
end
